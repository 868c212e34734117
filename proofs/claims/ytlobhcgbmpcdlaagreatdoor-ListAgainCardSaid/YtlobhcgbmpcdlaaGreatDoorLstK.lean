import Derived.Test.YtlobhcgbmpcdlaaGreatDoorLstI
open Option (bind_some)
open List (length_append length_cons length_nil)
namespace Go.Proofs.YtlobhcgbmpcdlaaGreatDoor.R
open Go Go.Bm Go.Proofs
set_option linter.unusedVariables false
set_option linter.unusedSimpArgs false
set_option linter.unusedSectionVars false
set_option maxRecDepth 4000
section
variable {L : List m7} (hL : L.length ≤ 100000) (hok : ∀ x ∈ L, Okk x)
include hL hok
def b6a (L : List m7) (i : Nat) : Bool := isB L i ([97, 115, 115, 117, 109, 101] : Str) || (isB L i ([103, 117, 97, 114, 97, 110, 116, 101, 101] : Str) || (isB L i ([103, 104, 111, 115, 116] : Str) || (isB L i ([109, 111, 100, 101] : Str) || isB L i ([105, 109, 112, 111, 114, 116] : Str))))
theorem b6v {i : Nat} (hi : i ≤ L.length) (hbeg : b6a L i = true) : ∃ z, c33 T.rf ((L, ((i : Nat) : Int), (0 : Int), (0 : Int)) : R6) = some z ∧ ((N7 z.1) ∨ ∃ j x, z = (((L, ((j : Nat) : Int), (0 : Int), (0 : Int)) : R6), x, true) ∧ I7 x = true ∧ j ≤ L.length ∧ (J (wIt x)).length + 60 * i ≤ 60 * j ∧ i < j) := by
 have T := m4 L (show i ≤ 2000000000 by omega)
 cases b1 : isB L i ([97, 115, 115, 117, 109, 101] : Str) with
 | true =>
   have hl := n9 b1
   obtain ⟨z, h1, h2⟩ := N0 hL hok (i := i + 1) (by omega)
   rcases h2 with h2 | ⟨j, e, rfl, he, hj, hje, hij⟩
   · exact ⟨(z.1, (1, [], 0, z.2, [], []), true), W5 (by simp only [r33, T, b1, cond_true, bind_some, h1, j6 h2]), .inl h2⟩
   obtain ⟨r', h3, h4⟩ := o6 hL hj [59]
   rcases h4 with h4 | ⟨rfl, h5⟩
   · exact ⟨(r', (1, [], 0, e, [], []), true), W5 (by simp only [r33, T, b1, cond_true, bind_some, h1, h3]), .inl h4⟩
   · refine ⟨(((L, ((j + 1 : Nat) : Int), (0 : Int), (0 : Int)) : R6), (1, [], 0, e, [], []), true), W5 (by simp only [r33, T, b1, cond_true, bind_some, h1, h3]), .inr ⟨j + 1, _, rfl, by simp [I7, he], h5, ?_, by omega⟩⟩
     have := (ef he).j
     simp only [wIt, if_true, J_c, J_a, J_n, length_cons, length_nil]; omega
 | false =>
 cases b2 : isB L i ([103, 117, 97, 114, 97, 110, 116, 101, 101] : Str) with
 | true =>
   have hl := n9 b2
   obtain ⟨z, h1, h2⟩ := N0 hL hok (i := i + 1) (by omega)
   rcases h2 with h2 | ⟨j, e, rfl, he, hj, hje, hij⟩
   · exact ⟨(z.1, (2, [], 0, z.2, [], []), true), W5 (by simp only [r33, T, b1, b2, cond_true, cond_false, bind_some, h1, j6 h2]), .inl h2⟩
   obtain ⟨r', h3, h4⟩ := o6 hL hj [59]
   rcases h4 with h4 | ⟨rfl, h5⟩
   · exact ⟨(r', (2, [], 0, e, [], []), true), W5 (by simp only [r33, T, b1, b2, cond_true, cond_false, bind_some, h1, h3]), .inl h4⟩
   · refine ⟨(((L, ((j + 1 : Nat) : Int), (0 : Int), (0 : Int)) : R6), (2, [], 0, e, [], []), true), W5 (by simp only [r33, T, b1, b2, cond_true, cond_false, bind_some, h1, h3]), .inr ⟨j + 1, _, rfl, by simp [I7, he], h5, ?_, by omega⟩⟩
     have := (ef he).j
     simp only [wIt, if_neg (show ¬ (2 : Int) = 1 by decide), if_true, J_c, J_a, J_n, length_cons, length_nil]; omega
 | false =>
 cases b3 : isB L i ([103, 104, 111, 115, 116] : Str) with
 | true =>
   have hl := n9 b3
   obtain ⟨y, g1, g2⟩ := R3 hL hok (i := i + 1) (by omega)
   rcases g2 with g2 | ⟨p, rfl, hp, hi3⟩
   · exact ⟨(y.1, (3, y.2.1, y.2.2, [], [], []), true), W5 (by simp only [r33, T, b1, b2, b3, cond_true, cond_false, bind_some, g1, j6 g2, G4 g2]), .inl g2⟩
   obtain ⟨r1, k1, k2⟩ := o6 hL hi3 [61]
   rcases k2 with k2 | ⟨rfl, k3⟩
   · exact ⟨(r1, (3, p.1, p.2, [], [], []), true), W5 (by simp only [r33, T, b1, b2, b3, cond_true, cond_false, bind_some, g1, k1, j6 k2, G4 k2]), .inl k2⟩
   obtain ⟨z, h1, h2⟩ := N0 hL hok k3
   rcases h2 with h2 | ⟨j, e, rfl, he, hj, hje, hij⟩
   · exact ⟨(z.1, (3, p.1, p.2, z.2, [], []), true), W5 (by simp only [r33, T, b1, b2, b3, cond_true, cond_false, bind_some, g1, k1, h1, j6 h2]), .inl h2⟩
   obtain ⟨r', h3, h4⟩ := o6 hL hj [59]
   rcases h4 with h4 | ⟨rfl, h5⟩
   · exact ⟨(r', (3, p.1, p.2, e, [], []), true), W5 (by simp only [r33, T, b1, b2, b3, cond_true, cond_false, bind_some, g1, k1, h1, h3]), .inl h4⟩
   · have hJ := c0f hp
     rw [H9, Bool.and_eq_true] at hp
     refine ⟨(((L, ((j + 1 : Nat) : Int), (0 : Int), (0 : Int)) : R6), (3, p.1, p.2, e, [], []), true), W5 (by simp only [r33, T, b1, b2, b3, cond_true, cond_false, bind_some, g1, k1, h1, h3]), .inr ⟨j + 1, _, rfl, by simp [I7, he, hp.1]; simpa using hp.2, h5, ?_, by omega⟩⟩
     have := (ef he).j
     simp only [wIt, if_neg (show ¬ (3 : Int) = 1 by decide), if_neg (show ¬ (3 : Int) = 2 by decide), if_true, J_c, J_a, J_n, length_cons, length_nil]
     have hJ' : (J (wPm (p.1, p.2))).length ≤ 49 := hJ
     omega
 | false =>
 cases b4 : isB L i ([109, 111, 100, 101] : Str) with
 | true =>
   have hl := n9 b4
   obtain ⟨y, g1, g2⟩ := N2 hL hok (i := i + 1) (by omega)
   rcases g2 with g2 | ⟨nm, rfl, hnm, hi2⟩
   · exact ⟨(y.1, (4, y.2, 0, [], [], []), true), W5 (by simp only [r33, T, b1, b2, b3, b4, cond_true, cond_false, bind_some, g1, j6 g2, G4 g2]), .inl g2⟩
   obtain ⟨r1, k1, k2⟩ := o6 hL hi2 ([114, 101, 113, 117, 105, 114, 101] : Str)
   rcases k2 with k2 | ⟨rfl, k3⟩
   · exact ⟨(r1, (4, nm, 0, [], [], []), true), W5 (by simp only [r33, T, b1, b2, b3, b4, cond_true, cond_false, bind_some, g1, k1, j6 k2, G4 k2]), .inl k2⟩
   obtain ⟨z, h1, h2⟩ := N0 hL hok k3
   rcases h2 with h2 | ⟨j, e, rfl, he, hj, hje, hij⟩
   · exact ⟨(z.1, (4, nm, 0, z.2, [], []), true), W5 (by simp only [r33, T, b1, b2, b3, b4, cond_true, cond_false, bind_some, g1, k1, h1, j6 h2, G4 h2]), .inl h2⟩
   obtain ⟨r2, l1, l2⟩ := o6 hL hj ([101, 110, 115, 117, 114, 101] : Str)
   rcases l2 with l2 | ⟨rfl, l3⟩
   · exact ⟨(r2, (4, nm, 0, e, [], []), true), W5 (by simp only [r33, T, b1, b2, b3, b4, cond_true, cond_false, bind_some, g1, k1, h1, l1, j6 l2, G4 l2]), .inl l2⟩
   obtain ⟨z2, m1, m2⟩ := N0 hL hok l3
   rcases m2 with m2 | ⟨j2, f, rfl, hf, hj2, hje2, hij2⟩
   · exact ⟨(z2.1, (4, nm, 0, e, z2.2, []), true), W5 (by simp only [r33, T, b1, b2, b3, b4, cond_true, cond_false, bind_some, g1, k1, h1, l1, m1, j6 m2]), .inl m2⟩
   obtain ⟨r', h3, h4⟩ := o6 hL hj2 [59]
   rcases h4 with h4 | ⟨rfl, h5⟩
   · exact ⟨(r', (4, nm, 0, e, f, []), true), W5 (by simp only [r33, T, b1, b2, b3, b4, cond_true, cond_false, bind_some, g1, k1, h1, l1, m1, h3]), .inl h4⟩
   · refine ⟨(((L, ((j2 + 1 : Nat) : Int), (0 : Int), (0 : Int)) : R6), (4, nm, 0, e, f, []), true), W5 (by simp only [r33, T, b1, b2, b3, b4, cond_true, cond_false, bind_some, g1, k1, h1, l1, m1, h3]), .inr ⟨j2 + 1, _, rfl, by simp [I7, he, hf, hnm], h5, ?_, by omega⟩⟩
     have := (ef he).j
     have := (ef hf).j
     have := N3 hnm
     simp only [wIt, if_neg (show ¬ (4 : Int) = 1 by decide), if_neg (show ¬ (4 : Int) = 2 by decide), if_neg (show ¬ (4 : Int) = 3 by decide), if_true, J_c, J_a, J_n, length_cons, length_nil]
     omega
 | false =>
   have b5 : isB L i ([105, 109, 112, 111, 114, 116] : Str) = true := by
    unfold b6a at hbeg
    rw [b1, b2, b3, b4] at hbeg
    simpa using hbeg
   have hl := n9 b5
   obtain ⟨y, g1, g2⟩ := N2 hL hok (i := i + 1) (by omega)
   rcases g2 with g2 | ⟨nm, rfl, hnm, hi2⟩
   · exact ⟨(y.1, (5, y.2, 0, [], [], []), true), W5 (by simp only [r33, T, b1, b2, b3, b4, b5, cond_true, cond_false, bind_some, g1, j6 g2, b5X g2]), .inl g2⟩
   obtain ⟨z, h1, h2⟩ := b5W hL hok hi2
   rcases h2 with h2 | ⟨j, l, rfl, hl2, hla, hj, hij⟩
   · exact ⟨(z.1, (5, nm, 0, [], [], z.2), true), W5 (by simp only [r33, T, b1, b2, b3, b4, b5, cond_true, cond_false, bind_some, g1, h1, j6 h2]), .inl h2⟩
   obtain ⟨r', h3, h4⟩ := o6 hL hj [59]
   rcases h4 with h4 | ⟨rfl, h5⟩
   · exact ⟨(r', (5, nm, 0, [], [], l), true), W5 (by simp only [r33, T, b1, b2, b3, b4, b5, cond_true, cond_false, bind_some, g1, h1, h3]), .inl h4⟩
   · refine ⟨(((L, ((j + 1 : Nat) : Int), (0 : Int), (0 : Int)) : R6), (5, nm, 0, [], [], l), true), W5 (by simp only [r33, T, b1, b2, b3, b4, b5, cond_true, cond_false, bind_some, g1, h1, h3]), .inr ⟨j + 1, _, rfl, ?_, h5, ?_, by omega⟩⟩
     · have ha : l.all D3 = true := List.all_eq_true.2 hla
       simp [I7, hnm, hl2]
       exact hla
     · have := (b9M l hla).2
       have := N3 hnm
       simp only [wIt, if_neg (show ¬ (5 : Int) = 1 by decide), if_neg (show ¬ (5 : Int) = 2 by decide), if_neg (show ¬ (5 : Int) = 3 by decide), if_neg (show ¬ (5 : Int) = 4 by decide), J_c, J_a, J_n, length_cons, length_nil]
       omega
theorem b2u : ∀ (m k : Nat) (out : List Itm), L.length - k ≤ m → k ≤ L.length → out.length ≤ 200 → (∀ p ∈ out, I7 p = true) →
  ∃ z, k50 T.rb ((L, ((k : Nat) : Int), (0 : Int), (0 : Int)) : R6) out = some z ∧ (N7 z.1 ∨ ∃ j l, z = (((L, ((j : Nat) : Int), (0 : Int), (0 : Int)) : R6), l) ∧ l.length ≤ 200 ∧ (∀ p ∈ l, I7 p = true) ∧ j ≤ L.length ∧ (J (G0 l)).length + 60 * k ≤ 60 * j + (J (G0 out)).length ∧ k ≤ j) := by
 intro m
 induction m with
 | zero =>
   intro k out hm hk ho hp
   have hb : b6a L k = false := by
    cases hb : b6a L k with
    | false => rfl
    | true =>
      unfold b6a at hb
      simp only [Bool.or_eq_true] at hb
      rcases hb with h | h | h | h | h <;> (have := n9 h; omega)
   exact ⟨(((L, ((k : Nat) : Int), (0 : Int), (0 : Int)) : R6), out), b1k (by simp only [b50, Y2, bind_some]; rw [show (isB L k ([97, 115, 115, 117, 109, 101] : Str) || (isB L k ([103, 117, 97, 114, 97, 110, 116, 101, 101] : Str) || (isB L k ([103, 104, 111, 115, 116] : Str) || (isB L k ([109, 111, 100, 101] : Str) || isB L k ([105, 109, 112, 111, 114, 116] : Str))))) = false from hb]; rfl), .inr ⟨k, out, rfl, ho, hp, hk, by omega, by omega⟩⟩
 | succ m ihm =>
   intro k out hm hk ho hp
   cases hb : b6a L k with
   | false => exact ⟨(((L, ((k : Nat) : Int), (0 : Int), (0 : Int)) : R6), out), b1k (by simp only [b50, Y2, bind_some]; rw [show (isB L k ([97, 115, 115, 117, 109, 101] : Str) || (isB L k ([103, 117, 97, 114, 97, 110, 116, 101, 101] : Str) || (isB L k ([103, 104, 111, 115, 116] : Str) || (isB L k ([109, 111, 100, 101] : Str) || isB L k ([105, 109, 112, 111, 114, 116] : Str))))) = false from hb]; rfl), .inr ⟨k, out, rfl, ho, hp, hk, by omega, by omega⟩⟩
   | true =>
     have hbeg : c32 T.rf ((L, ((k : Nat) : Int), (0 : Int), (0 : Int)) : R6) = some (((L, ((k : Nat) : Int), (0 : Int), (0 : Int)) : R6), true) := by rw [Y2]; rw [show (isB L k ([97, 115, 115, 117, 109, 101] : Str) || (isB L k ([103, 117, 97, 114, 97, 110, 116, 101, 101] : Str) || (isB L k ([103, 104, 111, 115, 116] : Str) || (isB L k ([109, 111, 100, 101] : Str) || isB L k ([105, 109, 112, 111, 114, 116] : Str))))) = true from hb]
     obtain ⟨r1, a1, a2⟩ := K7 hL ((L, ((k : Nat) : Int), (0 : Int), (0 : Int)) : R6) out.length
     rcases a2 with ⟨hlt, rfl⟩ | a2
     · obtain ⟨z, h1, h2⟩ := b6v hL hok hk hb
       rcases h2 with h2 | ⟨j, x, rfl, hx, hj, hJ, hkj⟩
       · cases hz : z.2.2 with
         | true => exact ⟨(z.1, out ++ [z.2.1]), b1k (by simp only [b50, hbeg, bind_some, cond_true, a1, h1, hz, m8 (show out.length + 1 ≤ 274877906944 by omega), Bool.and_true, a0f h2]), .inl h2⟩
         | false => exact ⟨(z.1, out), b1k (by simp only [b50, hbeg, bind_some, cond_true, cond_false, a1, h1, hz, a0f h2]), .inl h2⟩
       · have hp' : ∀ q ∈ out ++ [x], I7 q = true := fun q hq => by
          rcases List.mem_append.1 hq with h | h
          · exact hp q h
          · rw [List.mem_singleton] at h; subst h; exact hx
         have hJo : (J (G0 (out ++ [x]))).length = (J (G0 out)).length + (J (wIt x)).length := by
          rw [show G0 (out ++ [x]) = G0 out ++ wIt x by simp [G0], J_a]
         obtain ⟨z, c1, c2⟩ := ihm j (out ++ [x]) (by omega) hj (by simp; omega) hp'
         refine ⟨z, b1k (by simp only [b50, hbeg, bind_some, cond_true, a1, h1, m8 (show out.length + 1 ≤ 274877906944 by omega), Bool.and_true, c1]), ?_⟩
         rcases c2 with c2 | ⟨j', l, d1, d2, d3, d4, d5, d6⟩
         · exact .inl c2
         · exact .inr ⟨j', l, d1, d2, d3, d4, by omega, by omega⟩
     · exact ⟨(r1, out), b1k (by simp only [b50, hbeg, bind_some, cond_true, cond_false, a1, b6w a2, a0f a2]), .inl a2⟩
theorem a7W {i : Nat} (hi : i ≤ L.length) : ∃ z, c31 T.rf ((L, ((i : Nat) : Int), (0 : Int), (0 : Int)) : R6) = some z ∧ (N7 z.1 ∨ ∃ j l, z = (((L, ((j : Nat) : Int), (0 : Int), (0 : Int)) : R6), l) ∧ l.length ≤ 200 ∧ (∀ p ∈ l, I7 p = true) ∧ j ≤ L.length ∧ (J (G0 l)).length + 60 * i + 60 ≤ 60 * j ∧ i < j) := by
 obtain ⟨z, h1, h2⟩ := b2u hL hok L.length i [] (by omega) hi (by simp) (fun p hp => by cases hp)
 rcases h2 with h2 | ⟨j, l, rfl, d2, d3, d4, d5, d6⟩
 · exact ⟨(z.1, z.2), b9h (by simp only [r31, h1, j6 h2, bind_some]), .inl h2⟩
 obtain ⟨r1, a1, a2⟩ := o6 hL d4 ([101, 110, 100] : Str)
 have h0 : (J (G0 [])).length = 0 := rfl
 rcases a2 with a2 | ⟨rfl, a3⟩
 · exact ⟨(r1, l), b9h (by simp only [r31, h1, a1, bind_some]), .inl a2⟩
 · exact ⟨(((L, ((j + 1 : Nat) : Int), (0 : Int), (0 : Int)) : R6), l), b9h (by simp only [r31, h1, a1, bind_some]), .inr ⟨j + 1, l, rfl, d2, d3, a3, by omega, by omega⟩⟩
theorem c1g {i : Nat} (h : nmB L i = true) : i < L.length := by
 unfold nmB at h
 split at h
 · rename_i x hx; exact C0 hx
 · cases h
theorem b6l : ∀ (m k : Nat) (out : List Eqn), L.length - k ≤ m → k ≤ L.length → out.length ≤ 200 → (∀ p ∈ out, V8 p = true) →
  ∃ z, k54 T.rb ((L, ((k : Nat) : Int), (0 : Int), (0 : Int)) : R6) out = some z ∧ (N7 z.1 ∨ ∃ j l, z = (((L, ((j : Nat) : Int), (0 : Int), (0 : Int)) : R6), l) ∧ l.length ≤ 200 ∧ (∀ p ∈ l, V8 p = true) ∧ j ≤ L.length ∧ (J (S1 l)).length + 60 * k ≤ 60 * j + (J (S1 out)).length ∧ k ≤ j) := by
 intro m
 induction m with
 | zero =>
   intro k out hm hk ho hp
   have hb : nmB L k = false := by
    cases hb : nmB L k with
    | false => rfl
    | true => have := c1g hL hok hb; omega
   exact ⟨(((L, ((k : Nat) : Int), (0 : Int), (0 : Int)) : R6), out), a8s (by simp only [b54, C8, hb, bind_some, cond_false]), .inr ⟨k, out, rfl, ho, hp, hk, by omega, by omega⟩⟩
 | succ m ihm =>
   intro k out hm hk ho hp
   cases hb : nmB L k with
   | false => exact ⟨(((L, ((k : Nat) : Int), (0 : Int), (0 : Int)) : R6), out), a8s (by simp only [b54, C8, hb, bind_some, cond_false]), .inr ⟨k, out, rfl, ho, hp, hk, by omega, by omega⟩⟩
   | true =>
     have hM := m8 (show out.length + 1 ≤ 274877906944 by omega)
     obtain ⟨r1, a1, a2⟩ := K7 hL ((L, ((k : Nat) : Int), (0 : Int), (0 : Int)) : R6) out.length
     rcases a2 with ⟨hlt, rfl⟩ | a2
     case inr => exact ⟨(r1, out ++ [([], [])]), a8s (by simp only [b54, C8, hb, bind_some, cond_true, a1, R1 a2, j6 a2, G4 a2, hM, Bool.and_true, W9 a2]), .inl a2⟩
     obtain ⟨y, g1, g2⟩ := N2 hL hok hk
     rcases g2 with g2 | ⟨nm, rfl, hnm, hi2⟩
     · exact ⟨(y.1, out ++ [(y.2, [])]), a8s (by simp only [b54, C8, hb, bind_some, cond_true, a1, g1, j6 g2, G4 g2, hM, Bool.and_true, W9 g2]), .inl g2⟩
     obtain ⟨r2, k1, k2⟩ := o6 hL hi2 [61]
     rcases k2 with k2 | ⟨rfl, k3⟩
     · exact ⟨(r2, out ++ [(nm, [])]), a8s (by simp only [b54, C8, hb, bind_some, cond_true, a1, g1, k1, j6 k2, G4 k2, hM, Bool.and_true, W9 k2]), .inl k2⟩
     obtain ⟨z, h1, h2⟩ := N0 hL hok k3
     rcases h2 with h2 | ⟨j, e, rfl, he, hj, hje, hij⟩
     · exact ⟨(z.1, out ++ [(nm, z.2)]), a8s (by simp only [b54, C8, hb, bind_some, cond_true, a1, g1, k1, h1, j6 h2, hM, Bool.and_true, W9 h2]), .inl h2⟩
     obtain ⟨r', h3, h4⟩ := o6 hL hj [59]
     rcases h4 with h4 | ⟨rfl, h5⟩
     · exact ⟨(r', out ++ [(nm, e)]), a8s (by simp only [b54, C8, hb, bind_some, cond_true, a1, g1, k1, h1, h3, hM, Bool.and_true, W9 h4]), .inl h4⟩
     have hx : V8 (nm, e) = true := by unfold V8; rw [hnm, he]; rfl
     have hp' : ∀ q ∈ out ++ [(nm, e)], V8 q = true := fun q hq => by
      rcases List.mem_append.1 hq with h | h
      · exact hp q h
      · rw [List.mem_singleton] at h; subst h; exact hx
     have hJo : (J (S1 (out ++ [(nm, e)]))).length = (J (S1 out)).length + (J (wEq (nm, e))).length := by
      rw [show S1 (out ++ [(nm, e)]) = S1 out ++ wEq (nm, e) by simp [S1], J_a]
     have hJe : (J (wEq (nm, e))).length ≤ 60 * e.length + 60 := (c2f hx).2
     obtain ⟨z, c1, c2⟩ := ihm (j + 1) (out ++ [(nm, e)]) (by omega) h5 (by simp; omega) hp'
     refine ⟨z, a8s (by simp only [b54, C8, hb, bind_some, cond_true, a1, g1, k1, h1, h3, hM, Bool.and_true, c1]), ?_⟩
     rcases c2 with c2 | ⟨j', l, d1, d2, d3, d4, d5, d6⟩
     · exact .inl c2
     · exact .inr ⟨j', l, d1, d2, d3, d4, by omega, by omega⟩
theorem b2j {i : Nat} (hi : i ≤ L.length) : ∃ z, c65 T.rf ((L, ((i : Nat) : Int), (0 : Int), (0 : Int)) : R6) = some z ∧ (N7 z.1 ∨ ∃ j l, z = (((L, ((j : Nat) : Int), (0 : Int), (0 : Int)) : R6), l) ∧ l.length ≤ 200 ∧ (∀ p ∈ l, V8 p = true) ∧ j ≤ L.length ∧ (J (S1 l)).length + 60 * i + 60 ≤ 60 * j ∧ i < j) := by
 obtain ⟨z, h1, h2⟩ := b6l hL hok L.length i [] (by omega) hi (by simp) (fun p hp => by cases hp)
 rcases h2 with h2 | ⟨j, l, rfl, d2, d3, d4, d5, d6⟩
 · exact ⟨(z.1, z.2), b9j (by simp only [r65, h1, j6 h2, bind_some]), .inl h2⟩
 obtain ⟨r1, a1, a2⟩ := o6 hL d4 ([116, 101, 108] : Str)
 have h0 : (J (S1 [])).length = 0 := rfl
 rcases a2 with a2 | ⟨rfl, a3⟩
 · exact ⟨(r1, l), b9j (by simp only [r65, h1, a1, bind_some]), .inl a2⟩
 · exact ⟨(((L, ((j + 1 : Nat) : Int), (0 : Int), (0 : Int)) : R6), l), b9j (by simp only [r65, h1, a1, bind_some]), .inr ⟨j + 1, l, rfl, d2, d3, a3, by omega, by omega⟩⟩
theorem b4I : ∀ (m k : Nat) (out : List Pm), L.length - k ≤ m → k ≤ L.length → out.length ≤ 200 → (∀ p ∈ out, H9 p = true) →
  ∃ z, k52 T.rb ((L, ((k : Nat) : Int), (0 : Int), (0 : Int)) : R6) out = some z ∧ ((∃ r', N7 r' ∧ (z = .inr r' ∨ ∃ l, z = .inl (r', l))) ∨ ∃ j l, z = .inl (((L, ((j : Nat) : Int), (0 : Int), (0 : Int)) : R6), l) ∧ l.length ≤ 200 ∧ (∀ p ∈ l, H9 p = true) ∧ j ≤ L.length ∧ k + 4 * l.length ≤ j + 4 * out.length ∧ k < j) := by
 intro m
 induction m with
 | zero =>
   intro k out hm hk ho hp
   have hM := m8 (show out.length + 1 ≤ 274877906944 by omega)
   obtain ⟨r1, a1, a2⟩ := K7 hL ((L, ((k : Nat) : Int), (0 : Int), (0 : Int)) : R6) out.length
   rcases a2 with ⟨_, rfl⟩ | a2
   · obtain ⟨z, h1, h2⟩ := R3 hL hok hk
     rcases h2 with h2 | ⟨p, rfl, hpp, hi3⟩
     · exact ⟨.inl (z.1, out ++ [z.2]), b1l (by simp only [b52, ok6, bind_some, z6, cond_true, a1, h1, hM, Bool.and_true, j6 h2, M3 h2, Bool.not_false]), .inl ⟨z.1, h2, .inr ⟨_, rfl⟩⟩⟩
     · omega
   · exact ⟨.inl (r1, out ++ [([], 0)]), b1l (by simp only [b52, ok6, bind_some, z6, cond_true, a1, F5 a2, hM, Bool.and_true, j6 a2, M3 a2, Bool.not_false]), .inl ⟨r1, a2, .inr ⟨_, rfl⟩⟩⟩
 | succ m ihm =>
   intro k out hm hk ho hp
   have hM := m8 (show out.length + 1 ≤ 274877906944 by omega)
   obtain ⟨r1, a1, a2⟩ := K7 hL ((L, ((k : Nat) : Int), (0 : Int), (0 : Int)) : R6) out.length
   rcases a2 with ⟨hlt, rfl⟩ | a2
   case inr => exact ⟨.inl (r1, out ++ [([], 0)]), b1l (by simp only [b52, ok6, bind_some, z6, cond_true, a1, F5 a2, hM, Bool.and_true, j6 a2, M3 a2, Bool.not_false]), .inl ⟨r1, a2, .inr ⟨_, rfl⟩⟩⟩
   obtain ⟨z, h1, h2⟩ := R3 hL hok hk
   rcases h2 with h2 | ⟨p, rfl, hpp, hi3⟩
   · exact ⟨.inl (z.1, out ++ [z.2]), b1l (by simp only [b52, ok6, bind_some, z6, cond_true, a1, h1, hM, Bool.and_true, j6 h2, M3 h2, Bool.not_false]), .inl ⟨z.1, h2, .inr ⟨_, rfl⟩⟩⟩
   have hp' : ∀ q ∈ out ++ [p], H9 q = true := fun q hq => by
    rcases List.mem_append.1 hq with h | h
    · exact hp q h
    · rw [List.mem_singleton] at h; subst h; exact hpp
   obtain ⟨r2, b1, b2⟩ := o6 hL hi3 [59]
   rcases b2 with b2 | ⟨rfl, b3⟩
   · exact ⟨.inl (r2, out ++ [p]), b1l (by simp only [b52, ok6, bind_some, z6, cond_true, a1, h1, hM, Bool.and_true, b1, M3 b2, Bool.not_false]), .inl ⟨r2, b2, .inr ⟨_, rfl⟩⟩⟩
   cases hb : nmB L (k + 3 + 1) with
   | false => exact ⟨.inl (((L, ((k + 3 + 1 : Nat) : Int), (0 : Int), (0 : Int)) : R6), out ++ [p]), b1l (by simp only [b52, ok6, bind_some, z6, cond_true, a1, h1, hM, Bool.and_true, b1, C8, hb, Bool.not_false]), .inr ⟨_, _, rfl, by simp; omega, hp', b3, by simp; omega, by omega⟩⟩
   | true =>
     obtain ⟨z, c1, c2⟩ := ihm (k + 3 + 1) (out ++ [p]) (by omega) b3 (by simp; omega) hp'
     refine ⟨z, b1l (by simp only [b52, ok6, bind_some, z6, cond_true, a1, h1, hM, Bool.and_true, b1, C8, hb, Bool.not_true, cond_false, c1]), ?_⟩
     rcases c2 with c2 | ⟨j, l, d1, d2, d3, d4, d5, d6⟩
     · exact .inl c2
     · simp only [length_append, length_cons, length_nil] at d5
       exact .inr ⟨j, l, d1, d2, d3, d4, by omega, by omega⟩
theorem b7j {i : Nat} (hi : i ≤ L.length) : ∃ z, c64 T.rf ((L, ((i : Nat) : Int), (0 : Int), (0 : Int)) : R6) = some z ∧ (N7 z.1 ∨ ∃ j l, z = (((L, ((j : Nat) : Int), (0 : Int), (0 : Int)) : R6), l) ∧ l.length ≤ 200 ∧ (∀ p ∈ l, H9 p = true) ∧ j ≤ L.length ∧ i + 4 * l.length ≤ j ∧ i < j) := by
 obtain ⟨z, h1, h2⟩ := b4I hL hok L.length i [] (by omega) hi (by simp) (fun p hp => by cases hp)
 rcases h2 with ⟨r', hr, rfl | ⟨l, rfl⟩⟩ | ⟨j, l, rfl, d2, d3, d4, d5, d6⟩
 · exact ⟨(r', []), c1p (by simp only [r64, h1, bind_some]), .inl hr⟩
 · exact ⟨(r', l), c1p (by simp only [r64, h1, bind_some]), .inl hr⟩
 · exact ⟨(((L, ((j : Nat) : Int), (0 : Int), (0 : Int)) : R6), l), c1p (by simp only [r64, h1, bind_some]), .inr ⟨j, l, rfl, d2, d3, d4, by simpa using d5, d6⟩⟩
theorem a0q {α : Type} {f : α → Bool} {l : List α} (h : ∀ x ∈ l, f x = true) : l.all f = true := List.all_eq_true.2 h
theorem b0A {i : Nat} (hi : i ≤ L.length) (nm : Str) (inp : List Pm) (o : Str) (t : Int) (xs : List Itm) :
  ∃ z, ((c21 T.rf ((L, ((i : Nat) : Int), (0 : Int), (0 : Int)) : R6) ([118, 97, 114] : Str)).bind fun y14 => bif y14.2 then (c64 T.rf y14.1).bind fun y15 => (c28 T.rf y15.1 ([108, 101, 116] : Str)).bind fun y16 => (c65 T.rf y16).bind fun y17 => some (y17.1, false, nm, inp, o, t, y15.2, y17.2, xs) else (c28 T.rf y14.1 ([108, 101, 116] : Str)).bind fun y18 => (c65 T.rf y18).bind fun y19 => some (y19.1, false, nm, inp, o, t, [], y19.2, xs)) = some z ∧
   (N7 z.1 ∨ ∃ j v q, z = (((L, ((j : Nat) : Int), (0 : Int), (0 : Int)) : R6), false, nm, inp, o, t, v, q, xs) ∧ v.length ≤ 200 ∧ (∀ p ∈ v, H9 p = true) ∧ q.length ≤ 200 ∧ (∀ p ∈ q, V8 p = true) ∧ j ≤ L.length ∧ (J (a0U v)).length + (J (S1 q)).length + 60 * i + 60 ≤ 60 * j ∧ i < j) := by
 rw [m4 L (show i ≤ 2000000000 by omega), bind_some]
 cases hb : isB L i ([118, 97, 114] : Str) with
 | true =>
   have hl := n9 hb
   obtain ⟨z, h1, h2⟩ := b7j hL hok (i := i + 1) (by omega)
   rcases h2 with h2 | ⟨j, v, rfl, hv, hvp, hj, hij, hlt⟩
   · refine ⟨(z.1, false, nm, inp, o, t, z.2, [], xs), ?_, .inl h2⟩
     simp only [cond_true, h1, bind_some, j6 h2, H8 h2]
   obtain ⟨r', h3, h4⟩ := o6 hL hj ([108, 101, 116] : Str)
   rcases h4 with h4 | ⟨rfl, h5⟩
   · refine ⟨(r', false, nm, inp, o, t, v, [], xs), ?_, .inl h4⟩
     simp only [cond_true, h1, bind_some, h3, H8 h4]
   obtain ⟨z, k1, k2⟩ := b2j hL hok h5
   rcases k2 with k2 | ⟨j2, q, rfl, hq, hqp, hj2, hJ, hlt2⟩
   · refine ⟨(z.1, false, nm, inp, o, t, v, z.2, xs), ?_, .inl k2⟩
     simp only [cond_true, h1, bind_some, h3, k1]
   · refine ⟨(((L, ((j2 : Nat) : Int), (0 : Int), (0 : Int)) : R6), false, nm, inp, o, t, v, q, xs), ?_, .inr ⟨j2, v, q, rfl, hv, hvp, hq, hqp, hj2, ?_, by omega⟩⟩
     · simp only [cond_true, h1, bind_some, h3, k1]
     · have := b4J hvp
       unfold a0U
       split
       · simp only [J_c, J_a, J_n, length_cons, length_nil]; omega
       · rw [J_n]; omega
 | false =>
   obtain ⟨r', h3, h4⟩ := o6 hL hi ([108, 101, 116] : Str)
   rcases h4 with h4 | ⟨rfl, h5⟩
   · refine ⟨(r', false, nm, inp, o, t, [], [], xs), ?_, .inl h4⟩
     simp only [cond_false, bind_some, h3, H8 h4]
   obtain ⟨z, k1, k2⟩ := b2j hL hok h5
   rcases k2 with k2 | ⟨j2, q, rfl, hq, hqp, hj2, hJ, hlt2⟩
   · refine ⟨(z.1, false, nm, inp, o, t, [], z.2, xs), ?_, .inl k2⟩
     simp only [cond_false, bind_some, h3, k1]
   · refine ⟨(((L, ((j2 : Nat) : Int), (0 : Int), (0 : Int)) : R6), false, nm, inp, o, t, [], q, xs), ?_, .inr ⟨j2, [], q, rfl, by simp, (fun p hp => by cases hp), hq, hqp, hj2, ?_, by omega⟩⟩
     · simp only [cond_false, bind_some, h3, k1]
     · rw [show a0U [] = [] from rfl, J_n]; omega
theorem b7c {r : R6} (h : N7 r) (nm : Str) (inp : List Pm) (o : Str) (t : Int) (xs : List Itm) :
  ((c21 T.rf r ([118, 97, 114] : Str)).bind fun y14 => bif y14.2 then (c64 T.rf y14.1).bind fun y15 => (c28 T.rf y15.1 ([108, 101, 116] : Str)).bind fun y16 => (c65 T.rf y16).bind fun y17 => some (y17.1, false, nm, inp, o, t, y15.2, y17.2, xs) else (c28 T.rf y14.1 ([108, 101, 116] : Str)).bind fun y18 => (c65 T.rf y18).bind fun y19 => some (y19.1, false, nm, inp, o, t, [], y19.2, xs)) = some (r, false, nm, inp, o, t, [], [], xs) := by
 simp only [n5 h, j6 h, H8 h, bind_some, cond_false]
theorem b7e {i : Nat} (hi : i ≤ L.length) : ∃ z, c20 T.rf ((L, ((i : Nat) : Int), (0 : Int), (0 : Int)) : R6) = some z ∧ (N7 z.1 ∨ ∃ j u, z = (((L, ((j : Nat) : Int), (0 : Int), (0 : Int)) : R6), u) ∧ K5 u = true ∧ j ≤ L.length ∧ (J (wUn u)).length + 60 * i ≤ 60 * j ∧ i < j) := by
 have hT := m4 L (show i ≤ 2000000000 by omega)
 cases hb : isB L i ([99, 111, 110, 116, 114, 97, 99, 116] : Str) with
 | true =>
   have hl := n9 hb
   obtain ⟨y, g1, g2⟩ := N2 hL hok (i := i + 1) (by omega)
   rcases g2 with g2 | ⟨nm, rfl, hnm, hi2⟩
   · exact ⟨(y.1, true, y.2, [], [], 0, [], [], []), a3g (by simp only [r20, hT, hb, cond_true, bind_some, g1, a0e g2, a7X g2]), .inl g2⟩
   obtain ⟨z, h1, h2⟩ := a6d hL hok hi2
   rcases h2 with h2 | ⟨j, inp, rfl, hn, hp, hj, hij⟩
   · exact ⟨(z.1, true, nm, z.2, [], 0, [], [], []), a3g (by simp only [r20, hT, hb, cond_true, bind_some, g1, h1, a7X h2]), .inl h2⟩
   obtain ⟨z, k1, k2⟩ := a7W hL hok hj
   rcases k2 with k2 | ⟨j2, xs, rfl, hx, hxp, hj2, hJ, hlt⟩
   · exact ⟨(z.1, true, nm, inp, [], 0, [], [], z.2), a3g (by simp only [r20, hT, hb, cond_true, bind_some, g1, h1, k1]), .inl k2⟩
   · refine ⟨(((L, ((j2 : Nat) : Int), (0 : Int), (0 : Int)) : R6), true, nm, inp, [], 0, [], [], xs), a3g (by simp only [r20, hT, hb, cond_true, bind_some, g1, h1, k1]), .inr ⟨j2, _, rfl, ?_, hj2, ?_, by omega⟩⟩
     · simp only [K5, a4M, hnm, a0q hL hok hp, a0q hL hok hxp, dt hn, dt hx, cond_true]; rfl
     · have := b4J hp
       have := N3 hnm
       simp only [wUn, if_true, wIn, J_c, J_a, J_n, length_cons, length_nil]; omega
 | false =>
   obtain ⟨r0, n1, n2⟩ := o6 hL hi ([110, 111, 100, 101] : Str)
   have un : ∀ {r : R6}, N7 r → ∃ u, (c24 T.rf r) = some (r, []) := fun h => ⟨0, R1 h⟩
   rcases n2 with n2 | ⟨rfl, n3⟩
   · exact ⟨(r0, false, [], [], [], 0, [], [], []), a3g (by simp only [r20, hT, hb, cond_false, bind_some, n1, R1 n2, a0e n2, j6 n2, F5 n2, n5 n2, H8 n2]), .inl n2⟩
   obtain ⟨y, g1, g2⟩ := N2 hL hok n3
   rcases g2 with g2 | ⟨nm, rfl, hnm, hi2⟩
   · exact ⟨(y.1, false, y.2, [], [], 0, [], [], []), a3g (by simp only [r20, hT, hb, cond_false, bind_some, n1, g1, a0e g2, j6 g2, F5 g2, n5 g2, H8 g2]), .inl g2⟩
   obtain ⟨z, h1, h2⟩ := a6d hL hok hi2
   rcases h2 with h2 | ⟨j, inp, rfl, hn, hp, hj, hij⟩
   · exact ⟨(z.1, false, nm, z.2, [], 0, [], [], []), a3g (by simp only [r20, hT, hb, cond_false, bind_some, n1, g1, h1, j6 h2, F5 h2, n5 h2, H8 h2]), .inl h2⟩
   obtain ⟨r1, a1, a2⟩ := o6 hL hj ([114, 101, 116, 117, 114, 110, 115] : Str)
   rcases a2 with a2 | ⟨rfl, a3⟩
   · exact ⟨(r1, false, nm, inp, [], 0, [], [], []), a3g (by simp only [r20, hT, hb, cond_false, bind_some, n1, g1, h1, a1, j6 a2, F5 a2, n5 a2, H8 a2]), .inl a2⟩
   obtain ⟨r2, b1, b2⟩ := o6 hL a3 [40]
   rcases b2 with b2 | ⟨rfl, b3⟩
   · exact ⟨(r2, false, nm, inp, [], 0, [], [], []), a3g (by simp only [r20, hT, hb, cond_false, bind_some, n1, g1, h1, a1, b1, j6 b2, F5 b2, n5 b2, H8 b2]), .inl b2⟩
   obtain ⟨z, c1, c2⟩ := R3 hL hok b3
   rcases c2 with c2 | ⟨o, rfl, ho, c3⟩
   · exact ⟨(z.1, false, nm, inp, z.2.1, z.2.2, [], [], []), a3g (by simp only [r20, hT, hb, cond_false, bind_some, n1, g1, h1, a1, b1, c1, j6 c2, n5 c2, H8 c2]), .inl c2⟩
   obtain ⟨r3, d1, d2⟩ := o6 hL c3 [41]
   rcases d2 with d2 | ⟨rfl, d3⟩
   · exact ⟨(r3, false, nm, inp, o.1, o.2, [], [], []), a3g (by simp only [r20, hT, hb, cond_false, bind_some, n1, g1, h1, a1, b1, c1, d1, n5 d2, j6 d2, H8 d2]), .inl d2⟩
   have hTc := m4 L (show j + 1 + 1 + 3 + 1 ≤ 2000000000 by omega) ([99, 111, 110, 116, 114, 97, 99, 116] : Str)
   have hJo : (J (wPm (o.1, o.2))).length ≤ 49 := c0f ho
   have hJi := b4J hp
   have hnl := N3 hnm
   have hJo2 : (J (C7 [59] (List.map wPm [(o.1, o.2)]))).length ≤ 49 := by rw [List.map_cons, List.map_nil, a2D]; exact hJo
   cases hc : isB L (j + 1 + 1 + 3 + 1) ([99, 111, 110, 116, 114, 97, 99, 116] : Str) with
   | true =>
     have hlc := n9 hc
     obtain ⟨z, k1, k2⟩ := a7W hL hok (i := j + 1 + 1 + 3 + 1 + 1) (by omega)
     rcases k2 with k2 | ⟨j2, xs, rfl, hx, hxp, hj2, hJ, hlt⟩
     · have hT6 := b7c hL hok k2 nm inp o.1 o.2 z.2
       exact ⟨(z.1, false, nm, inp, o.1, o.2, [], [], z.2), a3g (by
        simp only [r20, hT, hb, cond_false, bind_some, n1, g1, h1, a1, b1, c1, d1, hTc, hc, cond_true, k1]
        exact hT6), .inl k2⟩
     · obtain ⟨z, t1, t2⟩ := b0A hL hok hj2 nm inp o.1 o.2 xs
       refine ⟨z, a3g (by
        simp only [r20, hT, hb, cond_false, bind_some, n1, g1, h1, a1, b1, c1, d1, hTc, hc, cond_true, k1]
        exact t1), ?_⟩
       rcases t2 with t2 | ⟨j3, v, q, rfl, hv, hvp, hq, hqp, hj3, hJ3, hlt3⟩
       · exact .inl t2
       · refine .inr ⟨j3, _, rfl, ?_, hj3, ?_, by omega⟩
         · simp only [K5, a4M, hnm, a0q hL hok hp, a0q hL hok hxp, a0q hL hok hvp, a0q hL hok hqp, dt hn, dt hx, dt hv, dt hq, cond_false, ho]; rfl
         · simp only [wUn, if_neg (show ¬ (false = true) by decide), wIn, J_c, J_a, J_n, length_cons, length_nil]
           by_cases hxl : xs.length > 0
           · simp only [if_pos hxl, J_c, J_a, J_n, length_cons, length_nil]; omega
           · simp only [if_neg hxl, J_n]; omega
   | false =>
     obtain ⟨z, t1, t2⟩ := b0A hL hok d3 nm inp o.1 o.2 []
     refine ⟨z, a3g (by
      simp only [r20, hT, hb, cond_false, bind_some, n1, g1, h1, a1, b1, c1, d1, hTc, hc]
      exact t1), ?_⟩
     rcases t2 with t2 | ⟨j3, v, q, rfl, hv, hvp, hq, hqp, hj3, hJ3, hlt3⟩
     · exact .inl t2
     · refine .inr ⟨j3, _, rfl, ?_, hj3, ?_, by omega⟩
       · simp only [K5, a4M, hnm, a0q hL hok hp, a0q hL hok hvp, a0q hL hok hqp, dt hn, dt hv, dt hq, cond_false, ho]; rfl
       · simp only [wUn, if_neg (show ¬ (false = true) by decide), length_nil, if_neg (show ¬ ((0 : Nat) > 0) by decide), wIn, J_c, J_a, J_n, length_cons, length_nil]
         omega
theorem b3o : ∀ (m k : Nat) (out : List Unt), L.length - k ≤ m → k ≤ L.length → out.length ≤ 200 → (∀ p ∈ out, K5 p = true) →
  ∃ z, k69 T.rb ((L, ((k : Nat) : Int), (0 : Int), (0 : Int)) : R6) ([] : Str) ([] : Str) out = some z ∧ z.2.1 = [] ∧ z.2.2.1 = [] ∧ (N7 z.1 ∨ ∃ j l, z = (((L, ((j : Nat) : Int), (0 : Int), (0 : Int)) : R6), [], [], l) ∧ l.length ≤ 200 ∧ (∀ p ∈ l, K5 p = true) ∧ j ≤ L.length ∧ (J (H2 l)).length + 60 * k ≤ 60 * j + (J (H2 out)).length ∧ k ≤ j) := by
 intro m
 have step : ∀ (k : Nat) (out : List Unt), k ≤ L.length → out.length ≤ 200 → (∀ p ∈ out, K5 p = true) → (isB L k ([110, 111, 100, 101] : Str) = true ∨ (isB L k ([110, 111, 100, 101] : Str) = false ∧ isB L k ([99, 111, 110, 116, 114, 97, 99, 116] : Str) = true)) → (∀ (k' : Nat) (out' : List Unt), k < k' → k' ≤ L.length → out'.length ≤ 200 → (∀ p ∈ out', K5 p = true) → ∃ z, k69 T.rb ((L, ((k' : Nat) : Int), (0 : Int), (0 : Int)) : R6) ([] : Str) ([] : Str) out' = some z ∧ z.2.1 = [] ∧ z.2.2.1 = [] ∧ (N7 z.1 ∨ ∃ j l, z = (((L, ((j : Nat) : Int), (0 : Int), (0 : Int)) : R6), [], [], l) ∧ l.length ≤ 200 ∧ (∀ p ∈ l, K5 p = true) ∧ j ≤ L.length ∧ (J (H2 l)).length + 60 * k' ≤ 60 * j + (J (H2 out')).length ∧ k' ≤ j)) →
   ∃ z, k69 T.rb ((L, ((k : Nat) : Int), (0 : Int), (0 : Int)) : R6) ([] : Str) ([] : Str) out = some z ∧ z.2.1 = [] ∧ z.2.2.1 = [] ∧ (N7 z.1 ∨ ∃ j l, z = (((L, ((j : Nat) : Int), (0 : Int), (0 : Int)) : R6), [], [], l) ∧ l.length ≤ 200 ∧ (∀ p ∈ l, K5 p = true) ∧ j ≤ L.length ∧ (J (H2 l)).length + 60 * k ≤ 60 * j + (J (H2 out)).length ∧ k ≤ j) := by
  intro k out hk ho hp hb ih
  have hM := m8 (show out.length + 1 ≤ 274877906944 by omega)
  have base : ∀ z, ((c29 T.rf ((L, ((k : Nat) : Int), (0 : Int), (0 : Int)) : R6) ((out.length : Nat) : Int)).bind fun y2 => (c20 T.rf y2).bind fun y3 => k69 T.rb y3.1 ([] : Str) ([] : Str) (out ++ [y3.2])) = some z → k69 T.rb ((L, ((k : Nat) : Int), (0 : Int), (0 : Int)) : R6) ([] : Str) ([] : Str) out = some z := fun z hz => b9c (by
   rcases hb with hb | ⟨hb, hc⟩
   · simp only [b69, a2c, hb, bind_some, cond_true, hM, Bool.and_true]
     exact hz
   · simp only [b69, a2c, hb, hc, bind_some, cond_true, cond_false, hM, Bool.and_true]
     exact hz)
  obtain ⟨r1, a1, a2⟩ := K7 hL ((L, ((k : Nat) : Int), (0 : Int), (0 : Int)) : R6) out.length
  rcases a2 with ⟨hlt, rfl⟩ | a2
  case inr =>
   obtain ⟨u, hu⟩ := b7f a2
   exact ⟨(r1, [], [], out ++ [u]), base _ (by rw [a1, bind_some, hu, bind_some, a6D a2]), rfl, rfl, .inl a2⟩
  obtain ⟨z, h1, h2⟩ := b7e hL hok hk
  rcases h2 with h2 | ⟨j, u, rfl, hu, hj, hJ, hkj⟩
  · exact ⟨(z.1, [], [], out ++ [z.2]), base _ (by rw [a1, bind_some, h1, bind_some, a6D h2]), rfl, rfl, .inl h2⟩
  have hp' : ∀ q ∈ out ++ [u], K5 q = true := fun q hq => by
   rcases List.mem_append.1 hq with h | h
   · exact hp q h
   · rw [List.mem_singleton] at h; subst h; exact hu
  have hJo : (J (H2 (out ++ [u]))).length = (J (H2 out)).length + (J (wUn u)).length := by
   rw [show H2 (out ++ [u]) = H2 out ++ wUn u by simp [H2], J_a]
  obtain ⟨z, c1, c2, c3, c4⟩ := ih j (out ++ [u]) hkj hj (by simp; omega) hp'
  refine ⟨z, base _ (by rw [a1, bind_some, h1, bind_some, c1]), c2, c3, ?_⟩
  rcases c4 with c4 | ⟨j', l, d1, d2, d3, d4, d5, d6⟩
  · exact .inl c4
  · exact .inr ⟨j', l, d1, d2, d3, d4, by omega, by omega⟩
 have stop : ∀ (k : Nat) (out : List Unt), k ≤ L.length → out.length ≤ 200 → (∀ p ∈ out, K5 p = true) → isB L k ([110, 111, 100, 101] : Str) = false → isB L k ([99, 111, 110, 116, 114, 97, 99, 116] : Str) = false → ∃ z, k69 T.rb ((L, ((k : Nat) : Int), (0 : Int), (0 : Int)) : R6) ([] : Str) ([] : Str) out = some z ∧ z.2.1 = [] ∧ z.2.2.1 = [] ∧ (N7 z.1 ∨ ∃ j l, z = (((L, ((j : Nat) : Int), (0 : Int), (0 : Int)) : R6), [], [], l) ∧ l.length ≤ 200 ∧ (∀ p ∈ l, K5 p = true) ∧ j ≤ L.length ∧ (J (H2 l)).length + 60 * k ≤ 60 * j + (J (H2 out)).length ∧ k ≤ j) := fun k out hk ho hp hb hc =>
  ⟨(((L, ((k : Nat) : Int), (0 : Int), (0 : Int)) : R6), [], [], out), b9c (by simp only [b69, a2c, hb, hc, bind_some, cond_false]), rfl, rfl, .inr ⟨k, out, rfl, ho, hp, hk, by omega, by omega⟩⟩
 induction m with
 | zero =>
   intro k out hm hk ho hp
   refine stop k out hk ho hp ?_ ?_
   · cases hb : isB L k ([110, 111, 100, 101] : Str) with
     | false => rfl
     | true => have := n9 hb; omega
   · cases hb : isB L k ([99, 111, 110, 116, 114, 97, 99, 116] : Str) with
     | false => rfl
     | true => have := n9 hb; omega
 | succ m ihm =>
   intro k out hm hk ho hp
   cases hb : isB L k ([110, 111, 100, 101] : Str) with
   | true => exact step k out hk ho hp (.inl hb) (fun k' out' h1 h2 h3 h4 => ihm k' out' (by omega) h2 h3 h4)
   | false =>
     cases hc : isB L k ([99, 111, 110, 116, 114, 97, 99, 116] : Str) with
     | true => exact step k out hk ho hp (.inr ⟨hb, hc⟩) (fun k' out' h1 h2 h3 h4 => ihm k' out' (by omega) h2 h3 h4)
     | false => exact stop k out hk ho hp hb hc
end
theorem b4D {r : R6} (h : N7 r) (mn bk : Str) (us : List Unt) : k70 T.rb ([] : Str) ([] : Str) (0, 0) r mn bk [] us = some (.inl ([], [], r.2.2, r, mn, bk, [], us, [])) := c5H (by
 simp only [b70, a0h h, bind_some, cond_false, Bool.not_false, cond_true])
theorem b5P {s : Str} (hs : s.length ≤ 1500) : ∃ q c a, c3 T.rf s = some (q, c, a) ∧ (c ≠ 0 ∨ (c = 0 ∧ a1o q = true ∧ (J (wPg q)).length ≤ 90000)) := by
 obtain ⟨L, e, a, h1, h2⟩ := c0j (s := s) (by omega)
 rcases h2 with he | ⟨rfl, rfl, hok, hlen⟩
 · exact ⟨([], [], []), e, a, or3 (by simp only [r3, h1, bind_some, nbf he, cond_true]), .inl he⟩
 have hL : L.length ≤ 100000 := by omega
 obtain ⟨z, u1, u2, u3, u4⟩ := b3o hL hok L.length 0 [] (by omega) (by omega) (by simp) (fun p hp => by cases hp)
 rw [show ((0 : Nat) : Int) = (0 : Int) from rfl] at u1
 have base : ∀ y, ((c28 T.rf z.1 ([109, 97, 105, 110] : Str)).bind fun y3 => (c24 T.rf y3).bind fun y4 => (c28 T.rf y4.1 [59]).bind fun y5 => (c21 T.rf y5 ([102, 97, 108, 108, 98, 97, 99, 107] : Str)).bind fun y6 => bif y6.2 then (c24 T.rf y6.1).bind fun y7 => (c28 T.rf y7.1 [59]).bind fun y8 => (k70 T.rb ([] : Str) ([] : Str) (0, 0) y8 y4.2 y7.2 [] z.2.2.2) else k70 T.rb ([] : Str) ([] : Str) (0, 0) y6.1 y4.2 z.2.2.1 [] z.2.2.2) = some y →
   c3 T.rf s = (match y with
    | .inl u10 => some ((u10.2.2.2.2.2.2.2.2, u10.1, u10.2.1), u10.2.2.1)
    | .inr w11 => some ((w11.2.2.2.2.2.2.2, w11.1, w11.2.1), w11.2.2.1)) := fun y hy => by
  have hy' : ∃ v, (match y with
   | .inl u10 => some ((u10.2.2.2.2.2.2.2.2, u10.1, u10.2.1), u10.2.2.1)
   | .inr w11 => some ((w11.2.2.2.2.2.2.2, w11.1, w11.2.1), w11.2.2.1)) = some v := by cases y <;> exact ⟨_, rfl⟩
  obtain ⟨v, hv⟩ := hy'
  rw [hv]
  refine or3 ?_
  simp only [r3, h1, bind_some, z0, cond_false, u1]
  rw [← hv]
  revert hy
  cases c28 T.rf z.1 ([109, 97, 105, 110] : Str) with
  | none => intro h; cases h
  | some y3 =>
  simp only [bind_some]
  cases c24 T.rf y3 with
  | none => intro h; cases h
  | some y4 =>
  simp only [bind_some]
  cases c28 T.rf y4.1 [59] with
  | none => intro h; cases h
  | some y5 =>
  simp only [bind_some]
  cases c21 T.rf y5 ([102, 97, 108, 108, 98, 97, 99, 107] : Str) with
  | none => intro h; cases h
  | some y6 =>
  simp only [bind_some]
  cases y6.2 with
  | true =>
    simp only [cond_true]
    cases c24 T.rf y6.1 with
    | none => intro h; cases h
    | some y7 =>
    simp only [bind_some]
    cases c28 T.rf y7.1 [59] with
    | none => intro h; cases h
    | some y8 =>
    simp only [bind_some]
    intro h
    rw [h, bind_some]
    cases y <;> rfl
  | false =>
    simp only [cond_false]
    intro h
    rw [h, bind_some]
    cases y <;> rfl
 have bad : ∀ (r : R6) (mn bk : Str) (us : List Unt), N7 r → ((c28 T.rf z.1 ([109, 97, 105, 110] : Str)).bind fun y3 => (c24 T.rf y3).bind fun y4 => (c28 T.rf y4.1 [59]).bind fun y5 => (c21 T.rf y5 ([102, 97, 108, 108, 98, 97, 99, 107] : Str)).bind fun y6 => bif y6.2 then (c24 T.rf y6.1).bind fun y7 => (c28 T.rf y7.1 [59]).bind fun y8 => (k70 T.rb ([] : Str) ([] : Str) (0, 0) y8 y4.2 y7.2 [] z.2.2.2) else k70 T.rb ([] : Str) ([] : Str) (0, 0) y6.1 y4.2 z.2.2.1 [] z.2.2.2) = k70 T.rb ([] : Str) ([] : Str) (0, 0) r mn bk [] us → ∃ q c a, c3 T.rf s = some (q, c, a) ∧ (c ≠ 0 ∨ (c = 0 ∧ a1o q = true ∧ (J (wPg q)).length ≤ 90000)) := fun r mn bk us hr he => by
  have := base _ (by rw [he, b4D hr])
  exact ⟨([], [], []), r.2.2.1, r.2.2.2, by rw [this], .inl hr⟩
 rcases u4 with u4 | ⟨j, us, rfl, hn, hu, hj, hJ, _⟩
 · exact bad z.1 [] z.2.2.1 z.2.2.2 u4 (by simp only [j6 u4, R1 u4, n5 u4, bind_some, cond_false])
 have h0 : (J (H2 [])).length = 0 := rfl
 obtain ⟨r1, a1, a2⟩ := o6 hL hj ([109, 97, 105, 110] : Str)
 rcases a2 with a2 | ⟨rfl, a3⟩
 · exact bad r1 [] [] us a2 (by simp only [a1, j6 a2, R1 a2, n5 a2, bind_some, cond_false])
 obtain ⟨y, b1, b2⟩ := N2 hL hok a3
 rcases b2 with b2 | ⟨mn, rfl, hmn, b3⟩
 · exact bad y.1 y.2 [] us b2 (by simp only [a1, b1, j6 b2, n5 b2, bind_some, cond_false])
 obtain ⟨r2, cc1, cc2⟩ := o6 hL b3 [59]
 rcases cc2 with cc2 | ⟨rfl, cc3⟩
 · exact bad r2 mn [] us cc2 (by simp only [a1, b1, cc1, n5 cc2, bind_some, cond_false])
 have hT := m4 L (show j + 1 + 1 + 1 ≤ 2000000000 by omega) ([102, 97, 108, 108, 98, 97, 99, 107] : Str)
 have hmnl := N3 hmn
 have good : ∀ (k : Nat) (bk : Str), j + 3 ≤ k → k ≤ L.length → (bk = [] ∨ (u9 bk = true ∧ j + 6 ≤ k)) → ((c28 T.rf ((L, ((j : Nat) : Int), (0 : Int), (0 : Int)) : R6) ([109, 97, 105, 110] : Str)).bind fun y3 => (c24 T.rf y3).bind fun y4 => (c28 T.rf y4.1 [59]).bind fun y5 => (c21 T.rf y5 ([102, 97, 108, 108, 98, 97, 99, 107] : Str)).bind fun y6 => bif y6.2 then (c24 T.rf y6.1).bind fun y7 => (c28 T.rf y7.1 [59]).bind fun y8 => (k70 T.rb ([] : Str) ([] : Str) (0, 0) y8 y4.2 y7.2 [] us) else k70 T.rb ([] : Str) ([] : Str) (0, 0) y6.1 y4.2 [] [] us) = k70 T.rb ([] : Str) ([] : Str) (0, 0) ((L, ((k : Nat) : Int), (0 : Int), (0 : Int)) : R6) mn bk [] us → ∃ q c a, c3 T.rf s = some (q, c, a) ∧ (c ≠ 0 ∨ (c = 0 ∧ a1o q = true ∧ (J (wPg q)).length ≤ 90000)) := fun k bk hjk hk hbk he => by
  by_cases hkl : k = L.length
  · obtain ⟨w, hw⟩ := a5R hkl mn bk us
    have := base _ (by simp only; rw [he, hw])
    refine ⟨(us, mn, bk), 0, 0, by rw [this], .inr ⟨rfl, ?_, ?_⟩⟩
    · have hb' : (bk == ([] : Str) || u9 bk) = true := by
       rcases hbk with rfl | hbk
       · rfl
       · rw [hbk.1, Bool.or_true]
      simp only [a1o, hmn, hb', dt hn, a0q hL hok hu]; rfl
    · rw [wPg, J_a]
      simp only
      unfold b3v
      rcases hbk with rfl | ⟨hbk, hk6⟩
      · rw [if_pos rfl]
        simp only [J_c, J_n, length_cons, length_nil]; omega
      · have := N3 hbk
        rw [if_neg (a4E hbk)]
        simp only [J_c, J_n, length_cons, length_nil]; omega
  · obtain ⟨r', f1, f2⟩ := a0D ((L, ((k : Nat) : Int), (0 : Int), (0 : Int)) : R6) (e := 5) (by decide)
    have ht : k70 T.rb ([] : Str) ([] : Str) (0, 0) ((L, ((k : Nat) : Int), (0 : Int), (0 : Int)) : R6) mn bk [] us = some (.inl ([], [], r'.2.2, r', mn, bk, [], us, [])) := c5H (by
     simp only [b70, ok6 ((L, ((k : Nat) : Int), (0 : Int), (0 : Int)) : R6), bind_some, z6, cond_true, dt (show ((k : Nat) : Int) < ((L.length : Nat) : Int) by omega), f1, a0h f2, Bool.not_false])
    have := base _ (by simp only; rw [he, ht])
    exact ⟨([], [], []), r'.2.2.1, r'.2.2.2, by rw [this], .inl f2⟩
 cases hb : isB L (j + 1 + 1 + 1) ([102, 97, 108, 108, 98, 97, 99, 107] : Str) with
 | false => exact good (j + 1 + 1 + 1) [] (by omega) cc3 (.inl rfl) (by simp only [a1, b1, cc1, hT, hb, bind_some, cond_false])
 | true =>
   have hl := n9 hb
   obtain ⟨y, d1, d2⟩ := N2 hL hok (i := j + 1 + 1 + 1 + 1) (by omega)
   rcases d2 with d2 | ⟨bk, rfl, hbk, d3⟩
   · exact bad y.1 mn y.2 us d2 (by simp only [a1, b1, cc1, hT, hb, bind_some, cond_true, d1, j6 d2])
   obtain ⟨r3, e1, e2⟩ := o6 hL d3 [59]
   rcases e2 with e2 | ⟨rfl, e3⟩
   · exact bad r3 mn bk us e2 (by simp only [a1, b1, cc1, hT, hb, bind_some, cond_true, d1, e1])
   · exact good (j + 1 + 1 + 1 + 1 + 1 + 1) bk (by omega) e3 (.inr ⟨hbk, by omega⟩) (by simp only [a1, b1, cc1, hT, hb, bind_some, cond_true, d1, e1])
theorem c5n {x : Itm} (h : I7 x = true) : SzI 200 5000 x := by
 have E : ∀ {e : List Nd}, D3 e = true → e.length ≤ 5000 := fun h => (ef h).sz
 cases itF h with
 | ag k nm ty e f a => exact ⟨E e, by rw [f]; simp, by rw [a]; simp, by rw [a]; simp⟩
 | gh k nm ty e f a => exact ⟨E e, by rw [f]; simp, by rw [a]; simp, by rw [a]; simp⟩
 | md k nm ty e f a => exact ⟨E e, E f, by rw [a]; simp, by rw [a]; simp⟩
 | im k nm ty e f l a => exact ⟨by rw [e]; simp, by rw [f]; simp, l, fun y hy => E (a y hy)⟩
theorem c6a {p : Prg} (h : a1o p = true) : SzP 200 5000 p := by
 have H := pgF h
 refine ⟨H.n, fun u hu => ?_⟩
 have Hu := unF (H.u u hu)
 exact ⟨Hu.i, Hu.v, Hu.q, Hu.x, fun q hq => (ef (eqF (Hu.qb q hq)).2).sz, fun x hx => c5n (Hu.xb x hx)⟩
theorem b0J (s : Str) : c6V T.rf s = some true := d2y (by
 have live_eq : c2 T.rf = some true := b8L
 simp only [c1T, live_eq, bind_some]
 by_cases hl : s.length ≤ 1500
 case neg => rw [dt (by omega)]; rfl
 rw [df (by omega), cond_false]
 obtain ⟨q, c, a, h1, h2⟩ := b5P hl
 rw [h1, bind_some]
 rcases h2 with hc | ⟨rfl, hp, hJ⟩
 · simp only [nbf hc, cond_true]
 have hs := c6a hp
 have ho := c1r hs
 have hj : a1o q = true → (J (wPg q)).length ≤ 200000000000 := fun _ => by omega
 obtain ⟨g1, g2⟩ := b9k hp
 have hj' : a1o (b4k q) = true → (J (wPg (b4k q))).length ≤ 200000000000 := fun _ => by rw [g2]; omega
 have ht := c6C (wPg q)
 simp only [z0, cond_false]
 rw [a7h hs (by decide) (by decide) hj, bind_some, hp, if_pos rfl, b5Q hp (by omega), bind_some, b1L hs (by decide) (by decide), bind_some, hp, cond_true]
 simp only [z6, cond_true]
 rw [a7h ho (by decide) (by decide) hj', bind_some, g1, if_pos rfl, g2, beq_self_eq_true]
 rfl)
theorem lawListAgain : c2k T 155 := fun d _ => ⟨true, b0J d, rfl, rfl, rfl⟩
end Go.Proofs.YtlobhcgbmpcdlaaGreatDoor.R
