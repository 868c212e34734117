/-
  OUR OWN: the names of an expression; how often a text is one of some.
-/
import Derived.Test.YtcmdngadpplodaaTreeL
namespace Go.Proofs.Ytcmdngadpplodaa.R
open Go Go.Bm Go.Proofs
set_option linter.unusedVariables false
set_option linter.unusedSimpArgs false
set_option maxRecDepth 4000

theorem count_loop (x : List UInt8) : ∀ (suf pre : List (List UInt8)) (n : Nat), pre.length + suf.length ≤ 1000000 → n ≤ pre.length →
    k72 T.rb (pre ++ suf) x (n : Nat) (pre.length : Nat) = some ((n + suf.count x : Nat) : Int)
  | [], pre, n, h, h2 => ob72 (by simp [b72, lt_self])
  | y :: suf, pre, n, h, h2 => ob72 (by
    simp only [List.length_cons] at h
    have ih := fun n' h' => count_loop x suf (pre ++ [y]) n' (by simp; omega) h'
    simp only [List.append_assoc, List.singleton_append] at ih
    simp only [b72, lt_mid, inb_mid, nth_mid, cond_true, Option.bind_some, next_mid pre y (by omega), List.count_cons]
    by_cases e : y = x
    · subst e
      rw [beq_self_eq_true, cond_true, wr_succ (by omega), ih (n + 1) (by simp; omega), if_pos rfl]
      congr 2; omega
    · rw [beq_eq_false_iff_ne.2 e, cond_false, ih n (by simp; omega), if_neg (by decide)]; rfl)

theorem count_eq {l : List (List UInt8)} (x : List UInt8) (h : l.length ≤ 1000000) : c49 T.rf l x = some ((l.count x : Nat) : Int) := or49 (by
  have := count_loop x l [] 0 (by simpa using h) (by simp)
  simp only [List.nil_append, List.length_nil, Nat.zero_add] at this
  rw [show ((0 : Nat) : Int) = (0 : Int) from rfl] at this
  simp only [r49, this, Option.bind_some])

/-! ### Names -/
theorem varsL_app : ∀ (x y : List Nd) (l : List (List UInt8)), varsL (x ++ y) l = varsL y (varsL x l)
  | [], y, l => rfl
  | n :: x, y, l => by
    rw [List.cons_append, varsL, varsL]
    split
    · exact varsL_app x y _
    · exact varsL_app x y _

theorem varsL_blank : ∀ (x : List Nd) (l : List (List UInt8)), varsL (x.map blank) l = varsL x l
  | [], l => rfl
  | n :: x, l => by
    rw [List.map_cons, varsL, varsL, varsL_blank x, varsL_blank x]; rfl

theorem varsL_pre : ∀ (x : List Nd) (l : List (List UInt8)), ∃ r, varsL x l = l ++ r
  | [], l => ⟨[], by simp [varsL]⟩
  | n :: x, l => by
    rw [varsL]
    split
    · obtain ⟨r, h⟩ := varsL_pre x (l ++ [n.2.2.2.2.2])
      exact ⟨n.2.2.2.2.2 :: r, by rw [h]; simp⟩
    · exact varsL_pre x l

theorem varsL_nodup : ∀ (x : List Nd) (l : List (List UInt8)), l.Nodup → (varsL x l).Nodup
  | [], l, h => h
  | n :: x, l, h => by
    rw [varsL]
    split
    · rename_i hc
      exact varsL_nodup x _ (List.nodup_append.2 ⟨h, by simp, fun a ha b hb => by simp at hb; subst hb; intro e; subst e; exact hc.2 ha⟩)
    · exact varsL_nodup x l h

theorem varsL_mem : ∀ (x : List Nd) (l : List (List UInt8)) (y : List UInt8), y ∈ varsL x l ↔ y ∈ l ∨ ∃ n ∈ x, n.1 = 3 ∧ n.2.2.2.2.2 = y
  | [], l, y => by simp [varsL]
  | n :: x, l, y => by
    rw [varsL]
    split
    · rename_i hc
      rw [varsL_mem x]
      constructor
      · rintro (h | ⟨m, h1, h2⟩)
        · rcases List.mem_append.1 h with h | h
          · exact .inl h
          · simp at h; exact .inr ⟨n, List.mem_cons_self, hc.1, h.symm⟩
        · exact .inr ⟨m, List.mem_cons_of_mem _ h1, h2⟩
      · rintro (h | ⟨m, h1, h2⟩)
        · exact .inl (List.mem_append_left _ h)
        · rcases List.mem_cons.1 h1 with rfl | h1
          · exact .inl (List.mem_append_right _ (by simp [h2.2]))
          · exact .inr ⟨m, h1, h2⟩
    · rename_i hc
      rw [varsL_mem x]
      constructor
      · rintro (h | ⟨m, h1, h2⟩)
        · exact .inl h
        · exact .inr ⟨m, List.mem_cons_of_mem _ h1, h2⟩
      · rintro (h | ⟨m, h1, h2⟩)
        · exact .inl h
        · rcases List.mem_cons.1 h1 with rfl | h1
          · exact .inl (Classical.byContradiction fun hh => hc ⟨h2.1, by rw [h2.2]; exact hh⟩)
          · exact .inr ⟨m, h1, h2⟩

mutual
/-- The nodes of a tree, in order, without their operands' numbers. -/
def labs : Tr → List Nd
  | .mk b ks => labss ks ++ [blank b]
def labss : List Tr → List Nd
  | [] => []
  | t :: r => labs t ++ labss r
end
mutual
theorem flat_labs : ∀ (t : Tr) (o : Nat), (flat t o).map blank = labs t
  | .mk b ks, o => by rw [flat, List.map_append, flats_labs ks o, labs]; simp [blank_aim]
theorem flats_labs : ∀ (ks : List Tr) (o : Nat), (flats ks o).map blank = labss ks
  | [], o => rfl
  | t :: r, o => by rw [flats, List.map_append, flat_labs t o, flats_labs r _, labss]
end

theorem vars_labs {e : List Nd} {t : Tr} (h : mayB e = true) (ht : Emb e (e.length - 1) t) : vars e = varsL (labs t) [] := by
  rw [vars, norm_flat h ht, ← varsL_blank, flat_labs]

theorem embs_lab {e : List Nd} {i : Nat} : ∀ {l : List Int} {ts : List Tr}, Embs e i l ts → ∀ k ∈ l, ∃ t ∈ ts, Emb e k.toNat t
  | [], [], _, k, hk => by cases hk
  | k :: l, t :: ts, ⟨_, _, h3, h4⟩, q, hq => by
    rcases List.mem_cons.1 hq with rfl | hq
    · exact ⟨t, List.mem_cons_self, h3⟩
    · obtain ⟨t', h1, h2⟩ := embs_lab h4 q hq
      exact ⟨t', List.mem_cons_of_mem _ h1, h2⟩
  | [], _ :: _, h, _, _ => by simp [Embs] at h
  | _ :: _, [], h, _, _ => by simp [Embs] at h

theorem labss_mem : ∀ {ts : List Tr} {t : Tr}, t ∈ ts → ∀ x ∈ labs t, x ∈ labss ts
  | t' :: ts, t, h, x, hx => by
    rw [labss]
    rcases List.mem_cons.1 h with rfl | h
    · exact List.mem_append_left _ hx
    · exact List.mem_append_right _ (labss_mem h x hx)

theorem scanR_in (e : List Nd) : ∀ (suf pre : List Nd) (V V' : List Nat), e = pre ++ suf → scanR e suf pre.length V = some V' → ∀ x ∈ V', x ∈ V ∨ ∃ (j : Nat) (n : Nd), nth e j = some n ∧ ∃ k ∈ kids n, k.toNat = x
  | [], pre, V, V', h, hs, x, hx => by cases hs; exact .inl hx
  | n :: suf, pre, V, V', h, hs, x, hx => by
    rw [scanR] at hs
    split at hs
    case isFalse => cases hs
    have hpl : (pre ++ [n]).length = pre.length + 1 := by simp
    rcases scanR_in e suf (pre ++ [n]) _ _ (by rw [h]; simp) (by rw [hpl]; exact hs) x hx with h1 | h1
    · rcases List.mem_append.1 h1 with h1 | h1
      · exact .inl h1
      · obtain ⟨k, hk, hkx⟩ := List.mem_map.1 h1
        exact .inr ⟨pre.length, n, by rw [h, nth_getElem?]; simp, k, hk, hkx⟩
    · exact .inr h1

/-- Each node of what may be is in its tree. -/
theorem all_labs {e : List Nd} (h : mayB e = true) {t : Tr} (ht : Emb e (e.length - 1) t) : ∀ (m i : Nat), e.length ≤ i + m → i < e.length → ∃ t', Emb e i t' ∧ ∀ x ∈ labs t', x ∈ labs t
  | 0, i, hm, hi => by omega
  | m + 1, i, hm, hi => by
    by_cases hl : i = e.length - 1
    · subst hl; exact ⟨t, ht, fun x hx => hx⟩
    · obtain ⟨V, hs, hc⟩ := may_V h
      have hiV : i ∈ V := List.count_pos_iff.1 (by rw [hc i, if_pos (by omega)]; omega)
      have hM := may_P h
      rcases scanR_in e e [] [] V rfl hs i hiV with h1 | ⟨j, n, hn, k, hk, hki⟩
      · cases h1
      · have hal := hM.ahead j n hn k hk
        have hjl : j < e.length := by rw [nth_getElem?] at hn; exact (List.getElem?_eq_some_iff.1 hn).1
        obtain ⟨t', h1, h2⟩ := all_labs h ht m j (by omega) hjl
        cases t' with
        | mk b ks =>
          obtain ⟨n', hn', hb, hna, hks⟩ := h1
          rw [hn] at hn'
          cases hn'
          obtain ⟨t2, h3, h4⟩ := embs_lab hks k hk
          rw [hki] at h4
          refine ⟨t2, h4, fun x hx => h2 x ?_⟩
          rw [labs]
          exact List.mem_append_left _ (labss_mem h3 x hx)

theorem node_lab {e : List Nd} {i : Nat} {n : Nd} (hn : nth e i = some n) : ∀ {t : Tr}, Emb e i t → blank n ∈ labs t
  | .mk b ks, ⟨n', hn', hb, _, _⟩ => by
    rw [hn] at hn'; cases hn'
    rw [labs, hb]
    exact List.mem_append_right _ (by simp [blank])

/-- Each stream of what may be is one of its names. -/
theorem var_in {e : List Nd} (h : mayB e = true) {i : Nat} {n : Nd} (hn : nth e i = some n) (h3 : n.1 = 3) : n.2.2.2.2.2 ∈ vars e := by
  obtain ⟨t, ht, _⟩ := may_tree h
  have hil : i < e.length := by rw [nth_getElem?] at hn; exact (List.getElem?_eq_some_iff.1 hn).1
  obtain ⟨t', h1, h2⟩ := all_labs h ht e.length i (by omega) hil
  rw [vars_labs h ht, varsL_mem]
  exact .inr ⟨blank n, h2 _ (node_lab hn h1), h3, rfl⟩

theorem vars_nodup (e : List Nd) : (vars e).Nodup := varsL_nodup _ _ List.nodup_nil

theorem nod_one {l : List (List UInt8)} (h : l.Nodup) {x : List UInt8} (hx : x ∈ l) : l.count x = 1 := by
  induction l with
  | nil => cases hx
  | cons a l ih =>
    rw [List.nodup_cons] at h
    rw [List.count_cons]
    rcases List.mem_cons.1 hx with rfl | hx
    · rw [List.count_eq_zero.2 h.1]; simp
    · have : ¬ a = x := fun e => h.1 (e ▸ hx)
      rw [ih h.2 hx, if_neg (by simpa using this)]

end Go.Proofs.Ytcmdngadpplodaa.R
