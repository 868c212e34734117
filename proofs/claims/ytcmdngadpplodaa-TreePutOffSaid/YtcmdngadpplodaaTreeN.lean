/-
  OUR OWN: where nothing is put an expression stays as it is, but for the order.
-/
import Derived.Test.YtcmdngadpplodaaTreeM
import Derived.Test.YtcmdngadpplodaaTreeJ
namespace Go.Proofs.Ytcmdngadpplodaa.R
open Go Go.Bm Go.Proofs
set_option linter.unusedVariables false
set_option linter.unusedSimpArgs false
set_option maxRecDepth 4000

def ids (n : Nat) : List Int := (List.range n).map fun (i : Nat) => ((i : Nat) : Int)
theorem ids_succ (n : Nat) : ids n ++ [(n : Int)] = ids (n + 1) := by simp [ids, List.range_succ]
theorem ids_get {n : Nat} {k : Int} (h : 0 ≤ k) (h2 : k < n) : (ids n).getD k.toNat 0 = k := by
  rw [List.getD_eq_getElem?_getD, ids, List.getElem?_map, List.getElem?_range (by omega)]
  simp; omega

theorem putL_same (names : List (List UInt8)) (by_ : List (List Nd)) (e : List Nd) (hA : Ahead e) (hN : ∀ n ∈ e, n = aim (blank n) (kids n))
    (hv : ∀ n ∈ e, n.1 = 3 → 0 ≤ placeI n.2.2.2.2.2 names 0 → ∀ p : Nat, (norm (by_.getD (placeI n.2.2.2.2.2 names 0).toNat [])).map (mv p) = [n]) :
    ∀ (suf pre : List Nd), e = pre ++ suf → putL names by_ suf pre (ids pre.length) = e
  | [], pre, h => by rw [h]; simp [putL]
  | n :: suf, pre, h => by
    have hmem : n ∈ e := by rw [h]; simp
    have hn : nth e pre.length = some n := by rw [h, nth_getElem?]; simp
    have hal := hA pre.length n hn
    have hat : aim n (atL (ids pre.length) (kids n)) = n := by
      have : atL (ids pre.length) (kids n) = kids n := by
        refine (List.map_congr_left fun k hk => ?_).trans (List.map_id _)
        have := hal k hk
        exact ids_get this.1 this.2
      rw [this]
      conv => lhs; arg 1; rw [hN n hmem]
      rw [aim_aim _ _ _ rfl]
      exact (hN n hmem).symm
    have ho : (if n.1 = 3 ∧ 0 ≤ placeI n.2.2.2.2.2 names 0 then pre ++ (norm (by_.getD (placeI n.2.2.2.2.2 names 0).toNat [])).map (mv pre.length) else pre ++ [aim n (atL (ids pre.length) (kids n))]) = pre ++ [n] := by
      split
      · rename_i hc
        rw [hv n hmem hc.1 hc.2]
      · rw [hat]
    rw [putL]
    simp only [ho]
    have hl : (((pre ++ [n]).length : Nat) : Int) - 1 = (pre.length : Nat) := by simp
    rw [hl, ids_succ]
    have ih := putL_same names by_ e hA hN hv suf (pre ++ [n]) (by rw [h]; simp)
    rw [List.length_append, List.length_singleton] at ih
    exact ih

theorem norm_nodes {e : List Nd} (h : mayB e = true) : ∀ n ∈ norm e, n = aim (blank n) (kids n) ∧ nodeB n = true := by
  intro n hn
  have hM := may_P (norm_may h).1
  obtain ⟨i, hi⟩ := List.mem_iff_getElem?.1 hn
  rw [← nth_getElem?] at hi
  have := hM.node i n hi
  exact ⟨(of_decide_eq_true this).2.2.1, this⟩

theorem putL_norm {names : List (List UInt8)} {by_ : List (List Nd)} {e : List Nd} (h : mayB e = true)
    (hv : ∀ n ∈ norm e, n.1 = 3 → 0 ≤ placeI n.2.2.2.2.2 names 0 → ∀ p : Nat, (norm (by_.getD (placeI n.2.2.2.2.2 names 0).toNat [])).map (mv p) = [n]) : putL names by_ (norm e) [] [] = norm e := by
  have := putL_same names by_ (norm e) (norm_ahead h) (fun n hn => (norm_nodes h n hn).1) hv (norm e) [] rfl
  simpa [ids] using this

/-- A stream's node. -/
def varN (s : List UInt8) : Nd := (3, -1, -1, -1, 0, s)
theorem varN_valid {s : List UInt8} (h : s ≠ []) : Valid (.mk (varN s) []) := by
  refine ⟨rfl, ?_, by simp, ⟨by show (1 : Int) ≤ 3; omega, by show (3 : Int) ≤ 28; omega, by show (0 : Int) ≤ 0; omega, by show (0 : Int) ≤ mostN 3; decide, ?_⟩, rfl, trivial⟩
  · intro l hl _
    match l, hl with
    | [], _ => rfl
  · show (s ≠ [] ↔ ((3 : Int) = 3 ∨ (3 : Int) = 27))
    simp [h]
theorem varN_may {s : List UInt8} (h : s ≠ []) : mayB [varN s] = true ∧ norm [varN s] = [varN s] := by
  have hv := varN_valid h
  have hf : flat (.mk (varN s) []) 0 = [varN s] := rfl
  have hm := may_flat hv
  rw [hf] at hm
  have hm' : mayB [varN s] = true := by rw [hm]; rfl
  refine ⟨hm', ?_⟩
  have := norm_of_flat hv (by rw [hf]; exact hm')
  rwa [hf] at this
theorem varN_mv (s : List UInt8) (p : Int) : mv p (varN s) = varN s := by simp [mv, varN, shift_neg]
theorem var_node {n : Nd} (h : nodeB n = true) (h3 : n.1 = 3) : n = varN n.2.2.2.2.2 ∧ n.2.2.2.2.2 ≠ [] := by
  have hd := of_decide_eq_true h
  obtain ⟨op, a, b, c, k, nm⟩ := n
  simp only at h3
  subst h3
  obtain ⟨_, _, h1, h2, h4, h5⟩ := hd
  have hk : kids (3, a, b, c, k, nm) = [] := by simp [kids]
  rw [hk] at h1
  simp only [aim, Prod.mk.injEq] at h1
  obtain ⟨_, rfl, rfl, rfl, _⟩ := h1
  have h4' : k ≤ 0 := h4
  have h2' : 0 ≤ k := h2
  have : k = 0 := by omega
  subst this
  exact ⟨rfl, h5.2 (.inl rfl)⟩

theorem placeI_get (x : List UInt8) : ∀ (l : List (List UInt8)) (i : Nat), 0 ≤ placeI x l i → ∃ j, placeI x l i = ((i + j : Nat) : Int) ∧ l[j]? = some x
  | [], i, h => by simp [placeI] at h
  | y :: r, i, h => by
    rw [placeI] at h ⊢
    by_cases e : y = x
    · rw [if_pos e]; exact ⟨0, by simp, by simp [e]⟩
    · rw [if_neg e] at h ⊢
      obtain ⟨j, h1, h2⟩ := placeI_get x r (i + 1) h
      exact ⟨j + 1, by rw [h1]; omega, by simpa using h2⟩

theorem placeI_mem (x : List UInt8) : ∀ (l : List (List UInt8)) (i : Nat), 0 ≤ placeI x l i → x ∈ l := fun l i h => by
  obtain ⟨j, _, h2⟩ := placeI_get x l i h
  exact List.mem_of_getElem? h2

mutual
theorem labs_in {e : List Nd} : ∀ (t : Tr) (i : Nat), Emb e i t → ∀ x ∈ labs t, ∃ n ∈ e, blank n = x
  | .mk b ks, i, ⟨n, hn, hb, hna, hks⟩, x, hx => by
    rw [labs] at hx
    rcases List.mem_append.1 hx with hx | hx
    · exact labss_in ks i (kids n) hks x hx
    · simp at hx
      rw [nth_getElem?] at hn
      refine ⟨n, List.mem_of_getElem? hn, ?_⟩
      rw [hx, hb]; rfl
theorem labss_in {e : List Nd} : ∀ (ts : List Tr) (i : Nat) (l : List Int), Embs e i l ts → ∀ x ∈ labss ts, ∃ n ∈ e, blank n = x
  | [], i, l, h, x, hx => by rw [labss] at hx; cases hx
  | t :: ts, i, l, h, x, hx => by
    cases l with
    | nil => simp [Embs] at h
    | cons k l =>
      obtain ⟨_, _, h3, h4⟩ := h
      rw [labss] at hx
      rcases List.mem_append.1 hx with hx | hx
      · exact labs_in t _ h3 x hx
      · exact labss_in ts i l h4 x hx
end

theorem vars_in {e : List Nd} (h : mayB e = true) {y : List UInt8} (hy : y ∈ vars e) : ∃ n ∈ e, n.1 = 3 ∧ n.2.2.2.2.2 = y := by
  obtain ⟨t, ht, _⟩ := may_tree h
  rw [vars_labs h ht, varsL_mem] at hy
  rcases hy with hy | ⟨m, h1, h2, h3⟩
  · cases hy
  · obtain ⟨n, hn, rfl⟩ := labs_in t _ ht m h1
    exact ⟨n, hn, h2, h3⟩

/-- The streams of what was put together. -/
theorem putL_vars (names : List (List UInt8)) (by_ : List (List Nd)) (Q : List UInt8 → Prop) : ∀ (l o : List Nd) (at_ : List Int), (∀ n ∈ o, n.1 = 3 → Q n.2.2.2.2.2) →
    (∀ n ∈ l, n.1 = 3 → (0 ≤ placeI n.2.2.2.2.2 names 0 → ∀ m ∈ norm (by_.getD (placeI n.2.2.2.2.2 names 0).toNat []), m.1 = 3 → Q m.2.2.2.2.2) ∧ (¬ 0 ≤ placeI n.2.2.2.2.2 names 0 → Q n.2.2.2.2.2)) →
    ∀ n ∈ putL names by_ l o at_, n.1 = 3 → Q n.2.2.2.2.2
  | [], o, at_, ho, hl => ho
  | n :: r, o, at_, ho, hl => by
    rw [putL]
    refine putL_vars names by_ Q r _ _ ?_ (fun m hm => hl m (List.mem_cons_of_mem _ hm))
    have hn := hl n List.mem_cons_self
    intro m hm h3
    split at hm
    · rename_i hc
      rcases List.mem_append.1 hm with hm | hm
      · exact ho m hm h3
      · obtain ⟨q, hq, rfl⟩ := List.mem_map.1 hm
        exact (hn hc.1).1 hc.2 q hq h3
    · rename_i hc
      rcases List.mem_append.1 hm with hm | hm
      · exact ho m hm h3
      · simp at hm
        subst hm
        rw [aim_op] at h3
        rw [aim_rest]
        exact (hn h3).2 (fun hp => hc ⟨h3, hp⟩)

end Go.Proofs.Ytcmdngadpplodaa.R
