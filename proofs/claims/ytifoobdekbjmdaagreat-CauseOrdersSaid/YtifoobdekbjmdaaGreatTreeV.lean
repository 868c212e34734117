/-
  OUR OWN: parts of what may be; three expressions joined.
-/
import Derived.Test.YtifoobdekbjmdaaGreatTreeU
namespace Go.Proofs.YtifoobdekbjmdaaGreat.R
open Go Go.Bm Go.Proofs
set_option linter.unusedVariables false
set_option linter.unusedSimpArgs false
set_option maxRecDepth 4000

theorem embs_mem {e : List Nd} {i : Nat} : ∀ (l : List Int) (ts : List Tr), Embs e i l ts → ∀ k ∈ l, ∃ t ∈ ts, Emb e k.toNat t
  | [], [], _, k, hk => by cases hk
  | k :: l, t :: ts, ⟨h1, h2, h3, h4⟩, q, hq => by
    rcases List.mem_cons.1 hq with rfl | hq
    · exact ⟨t, List.mem_cons_self, h3⟩
    · obtain ⟨u, h5, h6⟩ := embs_mem l ts h4 q hq
      exact ⟨u, List.mem_cons_of_mem _ h5, h6⟩
  | [], _ :: _, h, _, _ => by simp [Embs] at h
  | _ :: _, [], h, _, _ => by simp [Embs] at h

theorem deps_mono : ∀ (ks : List Tr) (m : Int), m ≤ deps ks m
  | [], m => by rw [deps]; omega
  | t :: r, m => by
    rw [deps]
    have := deps_mono r (if dep t > m then dep t else m)
    have h2 : m ≤ (if dep t > m then dep t else m) := by split <;> omega
    omega
theorem deps_ge : ∀ (ks : List Tr) (m : Int) (t : Tr), t ∈ ks → dep t ≤ deps ks m
  | u :: r, m, t, h => by
    rw [deps]
    rcases List.mem_cons.1 h with rfl | h
    · have := deps_mono r (if dep t > m then dep t else m)
      have h2 : dep t ≤ (if dep t > m then dep t else m) := by split <;> omega
      omega
    · exact deps_ge r _ t h

theorem dep_up {e : List Nd} (h : mayB e = true) {i : Nat} {u : Tr} (hu : Emb e i u) : dep u ≤ 40 := by
  have hi := emb_lt hu
  obtain ⟨t, ht, _, _, _, _, h6, _⟩ := may_tree h
  have hh := may_up h (fun j => ∀ t, Emb e j t → dep u ≤ dep t) (fun i n k hn hk hp t ht => by
    obtain ⟨b, ks⟩ := t
    obtain ⟨m, h1, h2, h3, h4⟩ := ht
    rw [hn] at h1
    obtain rfl := Option.some.inj h1
    obtain ⟨v, h5, h7⟩ := embs_mem _ _ h4 k hk
    have := hp v h7
    have := deps_ge ks 0 v h5
    rw [dep]; omega) (e.length - 1 - i) i (by omega) hi (fun t ht => by rw [emb_one t u i ht hu]; omega)
  have := hh t ht
  omega

theorem part_may {e : List Nd} (h : mayB e = true) {i : Nat} {u : Tr} (hu : Emb e i u) (hop : u.op ≠ 28) : mayB (flat u 0) = true ∧ Emb (flat u 0) ((flat u 0).length - 1) u := by
  have hM := may_P h
  have hi := emb_lt hu
  have hv := valid_emb hM u i hu
  have hs := hM.small i hi
  rw [sz_emb hu (i + 1) (by omega)] at hs
  have hlen := hM.len
  have hE := emb_flat u [] [] hv
  simp only [List.nil_append, List.append_nil, List.length_nil, Nat.zero_add] at hE
  refine ⟨?_, by rw [flat_len]; exact hE⟩
  rw [may_flat hv, dt (show u.size ≤ 5000 by omega), dt hop, dt (dep_up h hu)]; rfl

theorem norm_tree {e : List Nd} {t : Tr} (h : mayB e = true) (ht : Emb e (e.length - 1) t) : Emb (norm e) ((norm e).length - 1) t := by
  have hE := emb_flat t [] [] (valid_emb (may_P h) t _ ht)
  simp only [List.nil_append, List.append_nil, List.length_nil, Nat.zero_add] at hE
  rw [norm_flat h ht, flat_len]; exact hE

theorem total2 (a b : List Nd) : total [a, b] = a.length + b.length + 2 := by simp [total]; omega

theorem joinl {op n : Int} {nm : List UInt8} {ps : List (List Nd)} : (join op n nm ps).length ≤ total ps + 1 := by
  unfold join
  split
  · simp
  split
  · simp
  split
  · simp
  · rename_i o ks l hj
    have := joinL_len op ps _ _ _ _ _ _ hj
    simp only [List.length_append, List.length_nil, List.length_singleton] at this ⊢; omega

theorem total3 (a b c : List Nd) : total [a, b, c] = a.length + b.length + c.length + 3 := by simp [total]; omega

theorem join3 {n : Int} {nm : List UInt8} {a b c : List Nd} (ha : mayB a = true) (hb : mayB b = true) (hc : mayB c = true) :
    join 26 n nm [a, b, c] = a ++ (b.map (mv a.length) ++ (c.map (mv ((a.length + b.length : Nat) : Int)) ++ [(26, (a.length : Int) - 1, ((a.length + b.length : Nat) : Int) - 1, ((a.length + b.length + c.length : Nat) : Int) - 1, n, nm)])) := by
  have ha0 := (may_P ha).ne
  have hb0 := (may_P hb).ne
  have hc0 := (may_P hc).ne
  have hk : kids (26, -1, -1, -1, n, nm) = [-1, -1, -1] := by simp [kids]
  unfold join
  rw [if_neg (by decide), hk, if_neg (by intro hh; exact hh.2 rfl)]
  have e1 : ([] : List Nd) ++ a.map (mv ((([] : List Nd).length : Nat) : Int)) = a := by simpa using may_mv0 ha
  have h27 : ¬ (26 : Int) = 27 := by decide
  simp only [joinL, if_neg ha0, if_neg hb0, if_neg hc0, if_neg h27, e1]
  simp only [keptK, if_neg h27, aim, List.nil_append, List.singleton_append, List.append_assoc, List.cons_append, List.length_append, List.length_map, Nat.add_assoc]

theorem join3_tree {n : Int} {nm : List UInt8} {a b c : List Nd} {ta tb tc : Tr} (ha : Emb a (a.length - 1) ta) (hb : Emb b (b.length - 1) tb) (hc : Emb c (c.length - 1) tc) (hla : a.length ≤ 5000) (hlb : b.length ≤ 5000) (hlc : c.length ≤ 5000) :
    Emb (a ++ (b.map (mv a.length) ++ (c.map (mv ((a.length + b.length : Nat) : Int)) ++ [(26, (a.length : Int) - 1, ((a.length + b.length : Nat) : Int) - 1, ((a.length + b.length + c.length : Nat) : Int) - 1, n, nm)])))
      ((a ++ (b.map (mv a.length) ++ (c.map (mv ((a.length + b.length : Nat) : Int)) ++ [(26, (a.length : Int) - 1, ((a.length + b.length : Nat) : Int) - 1, ((a.length + b.length + c.length : Nat) : Int) - 1, n, nm)]))).length - 1)
      (.mk (26, -1, -1, -1, n, nm) [ta, tb, tc]) := by
  have pa := emb_lt ha
  have pb := emb_lt hb
  have pc := emb_lt hc
  generalize hr : ((26 : Int), (a.length : Int) - 1, ((a.length + b.length : Nat) : Int) - 1, ((a.length + b.length + c.length : Nat) : Int) - 1, n, nm) = r
  have h1 : Emb (a ++ (b.map (mv a.length) ++ (c.map (mv ((a.length + b.length : Nat) : Int)) ++ [r]))) (a.length - 1) ta := emb_app _ ta _ ha
  have h2 : Emb (a ++ (b.map (mv a.length) ++ (c.map (mv ((a.length + b.length : Nat) : Int)) ++ [r]))) (a.length + b.length - 1) tb := by
    have h4 := emb_app (c.map (mv ((a.length + b.length : Nat) : Int)) ++ [r]) tb _ (emb_mv a (by omega) tb _ hb)
    rw [List.append_assoc] at h4
    rw [show a.length + b.length - 1 = a.length + (b.length - 1) by omega]; exact h4
  have h3 : Emb (a ++ (b.map (mv a.length) ++ (c.map (mv ((a.length + b.length : Nat) : Int)) ++ [r]))) (a.length + b.length + c.length - 1) tc := by
    have h5 := emb_mv (a ++ b.map (mv a.length)) (by simp; omega) tc _ hc
    rw [show (a ++ b.map (mv a.length)).length = a.length + b.length by simp] at h5
    have h4 := emb_app [r] tc _ h5
    rw [show a.length + b.length + c.length - 1 = a.length + b.length + (c.length - 1) by omega]
    simpa only [List.append_assoc] using h4
  have hel : (a ++ (b.map (mv a.length) ++ (c.map (mv ((a.length + b.length : Nat) : Int)) ++ [r]))).length = a.length + b.length + c.length + 1 := by simp; omega
  have hk : kids r = [(a.length : Int) - 1, ((a.length + b.length : Nat) : Int) - 1, ((a.length + b.length + c.length : Nat) : Int) - 1] := by rw [← hr]; simp [kids]
  refine ⟨r, ?_, by rw [← hr]; rfl, ?_, ?_⟩
  · rw [hel, nth_getElem?, List.getElem?_append_right (by omega), List.getElem?_append_right (by simp; omega), List.getElem?_append_right (by simp; omega)]
    rw [List.length_map, List.length_map, show a.length + b.length + c.length + 1 - 1 - a.length - b.length - c.length = 0 by omega]; rfl
  · rw [hk, ← hr]; rfl
  · rw [hk, hel]
    refine ⟨by omega, by omega, ?_, by omega, by omega, ?_, by omega, by omega, ?_, trivial⟩
    · rw [show ((a.length : Int) - 1).toNat = a.length - 1 by omega]; exact h1
    · rw [show (((a.length + b.length : Nat) : Int) - 1).toNat = a.length + b.length - 1 by omega]; exact h2
    · rw [show (((a.length + b.length + c.length : Nat) : Int) - 1).toNat = a.length + b.length + c.length - 1 by omega]; exact h3

end Go.Proofs.YtifoobdekbjmdaaGreat.R
