/-
  OUR OWN: the type of an expression, said of its tree.
-/
import Derived.Test.YtomofgclaiaikaaTypA
import Derived.Test.YtomofgclaiaikaaTreeV
namespace Go.Proofs.Ytomofgclaiaikaa.R
open Go Go.Bm Go.Proofs
set_option linter.unusedVariables false
set_option linter.unusedSimpArgs false
set_option maxRecDepth 4000

section
variable (S : List Pm) (U : List Un)
mutual
/-- A tree's type. -/
def typT : Tr → Int
  | .mk b ks => (nodeT S U b.1 b.2.2.2.2.2 (typTs ks) (callTs ks)).1
def typTs : List Tr → List Int
  | [] => []
  | t :: r => typT t :: typTs r
/-- The types of a list of arguments. -/
def argTs : Tr → List Int
  | .mk b ks => argKs ks
def argKs : List Tr → List Int
  | [] => []
  | [x] => [typT x]
  | p :: x :: r => argTs p ++ [typT x]
def callTs : List Tr → List Int
  | [] => []
  | p :: _ => argTs p
end
mutual
/-- Has all of a tree a type? -/
def okT : Tr → Bool
  | .mk b ks => okTs ks && decide ((nodeT S U b.1 b.2.2.2.2.2 (typTs S U ks) (callTs S U ks)).2 = 0)
def okTs : List Tr → Bool
  | [] => true
  | t :: r => okT t && okTs r
end

theorem typT_eq (b : Nd) (ks : List Tr) : typT S U (.mk b ks) = (nodeT S U b.1 b.2.2.2.2.2 (typTs S U ks) (callTs S U ks)).1 := by rw [typT]
theorem okT_eq (b : Nd) (ks : List Tr) : okT S U (.mk b ks) = (okTs S U ks && decide ((nodeT S U b.1 b.2.2.2.2.2 (typTs S U ks) (callTs S U ks)).2 = 0)) := by rw [okT]
theorem argTs_eq (b : Nd) (ks : List Tr) : argTs S U (.mk b ks) = argKs S U ks := by rw [argTs]

/-- The types of the nodes ahead are right. -/
def RightT (e : List Nd) (acc : List Int) (m : Nat) : Prop := ∀ i t, i < m → Emb e i t → acc.getD i 0 = typT S U t ∧ okT S U t = true

theorem types_embs {e : List Nd} {acc : List Int} {m : Nat} (h : RightT S U e acc m) : ∀ (l : List Int) (ts : List Tr) (i : Nat), i ≤ m → Embs e i l ts → (l.map fun k => acc.getD k.toNat 0) = typTs S U ts ∧ okTs S U ts = true
  | [], [], i, _, _ => ⟨by rw [typTs]; rfl, by rw [okTs]⟩
  | k :: l, t :: ts, i, hi, ⟨h1, h2, h3, h4⟩ => by
    have hk := h k.toNat t (by omega) h3
    have hr := types_embs h l ts i hi h4
    exact ⟨by rw [List.map_cons, typTs, hk.1, hr.1], by rw [okTs, hk.2, hr.2]; rfl⟩
  | [], _ :: _, i, _, h => by simp [Embs] at h
  | _ :: _, [], i, _, h => by simp [Embs] at h

theorem args_emb {e : List Nd} (hM : MayP e) {acc : List Int} {m : Nat} (hR : RightT S U e acc m) : ∀ (f : Nat) (p : Tr) (i : Nat), Emb e i p → opAt e i = 28 → i < m → i < f → argsR e acc f (i : Nat) = (argTs S U p).reverse
  | 0, p, i, _, _, _, hf => by omega
  | f + 1, .mk b ks, i, ⟨n, hn, hb, hna, hks⟩, ho, hm, hf => by
    have hil := nth_lt hn
    rw [opAt_of hn] at ho
    have hal := hM.ahead i n hn
    have hargs := hM.args i n hn
    rw [argsR, if_neg (by omega), Int.toNat_natCast, hn, argTs_eq]
    simp only
    by_cases hb2 : n.2.2.1 = -1
    · have hk : kids n = [n.2.1] := by
        unfold kids; rw [if_neg (by omega), if_neg (fun hh => hh.2 hb2), if_neg (by omega), if_neg (by omega), if_pos (by omega)]
      rw [hk] at hks
      match ks, hks with
      | [x], ⟨h1, h2, h3, _⟩ =>
        rw [hb2, (hR n.2.1.toNat x (by omega) h3).1, argKs]
        cases f with
        | zero => rfl
        | succ f => rw [argsR, if_pos (by decide)]; rfl
    · have hk : kids n = [n.2.2.1, n.2.1] := by
        unfold kids; rw [if_neg (by omega), if_pos ⟨by omega, hb2⟩]
      rw [hk] at hks hargs
      rw [argsB, Bool.and_eq_true] at hargs
      have h28 := argB_28 hargs.1 (.inr ⟨by omega, hb2, rfl⟩)
      match ks, hks with
      | [p, x], ⟨h1, h2, h3, h4, h5, h6, _⟩ =>
        have ih := args_emb hM hR f p n.2.2.1.toNat h3 h28 (by omega) (by omega)
        rw [show ((n.2.2.1.toNat : Nat) : Int) = n.2.2.1 by omega] at ih
        rw [(hR n.2.1.toNat x (by omega) h6).1, ih, argKs]
        simp

theorem node_emb {e : List Nd} (hM : MayP e) {acc : List Int} {i : Nat} (hl : acc.length = i) (hR : RightT S U e acc i) {n : Nd} (hn : nth e i = some n) {t : Tr} (ht : Emb e i t) :
    typT S U t = (nodeL S U e acc n).1 ∧ okT S U t = decide ((nodeL S U e acc n).2 = 0) := by
  obtain ⟨b, ks⟩ := t
  obtain ⟨m, h1, h2, h3, h4⟩ := ht
  rw [hn] at h1
  obtain rfl := Option.some.inj h1
  obtain ⟨k1, k2⟩ := types_embs S U hR _ _ _ (Nat.le_refl _) h4
  have hcall : nodeT S U n.1 n.2.2.2.2.2 (typTs S U ks) (argsR e acc (acc.length + 1) n.2.1).reverse = nodeT S U n.1 n.2.2.2.2.2 (typTs S U ks) (callTs S U ks) := by
    by_cases h27 : n.1 = 27
    · congr 1
      by_cases ha : n.2.1 = -1
      · have hk : kids n = [] := by
          unfold kids; rw [if_neg (by omega), if_neg (by omega), if_pos ⟨h27, ha⟩]
        rw [hk] at h4
        match ks, h4 with
        | [], _ => rw [argsR, if_pos (by omega), callTs]; rfl
      · have hk : kids n = [n.2.1] := by
          unfold kids; rw [if_neg (by omega), if_neg (by omega), if_neg (fun hh => ha hh.2), if_neg (by omega), if_pos (by omega)]
        have hargs := hM.args _ n hn
        rw [hk, argsB, Bool.and_eq_true] at hargs
        have h28 := argB_28 hargs.1 (.inl h27)
        rw [hk] at h4
        match ks, h4 with
        | [p], ⟨g1, g2, g3, _⟩ =>
          have := args_emb S U hM hR (acc.length + 1) p n.2.1.toNat g3 h28 (by omega) (by omega)
          rw [show ((n.2.1.toNat : Nat) : Int) = n.2.1 by omega] at this
          rw [this, List.reverse_reverse, callTs]
    · unfold nodeT
      by_cases h28 : n.1 = 28
      · rw [if_pos h28, if_pos h28]
      rw [if_neg h28, if_neg h28]
      by_cases h3 : n.1 = 3
      · rw [if_pos h3, if_pos h3]
      rw [if_neg h3, if_neg h3, if_neg h27, if_neg h27]
  have hb1 : b.1 = n.1 := by rw [h2]; rfl
  have hb2 : b.2.2.2.2.2 = n.2.2.2.2.2 := by rw [h2]; rfl
  have e1 : nodeL S U e acc n = nodeT S U n.1 n.2.2.2.2.2 (typTs S U ks) (callTs S U ks) := by rw [nodeL, k1, hcall]
  exact ⟨by rw [typT_eq, hb1, hb2, e1], by rw [okT_eq, k2, hb1, hb2, e1]; rfl⟩

theorem typL_emb {e : List Nd} (hM : MayP e) : ∀ (suf pre : List Nd) (acc : List Int), e = pre ++ suf → acc.length = pre.length → RightT S U e acc pre.length →
    match typL S U e suf acc with
    | .inr l => RightT S U e l e.length
    | .inl x => x.1 = 0 ∧ x.2 ≠ 0 ∧ ∃ i, i < e.length ∧ ∀ t, Emb e i t → okT S U t = false
  | [], pre, acc, h, ha, hR => by
    rw [typL]; rw [h, List.append_nil] at hR ⊢; exact hR
  | n :: suf, pre, acc, h, ha, hR => by
    have hn : nth e pre.length = some n := by rw [h, nth_getElem?]; simp
    have hil := nth_lt hn
    have hpl : (pre ++ [n]).length = pre.length + 1 := by simp
    have hnode := fun t ht => node_emb S U hM ha hR hn (t := t) ht
    rw [typL]
    by_cases hz : (nodeL S U e acc n).2 = 0
    · rw [if_neg (by intro hh; exact hh hz)]
      refine typL_emb hM suf (pre ++ [n]) _ (by rw [h]; simp) (by simp [ha]) ?_
      intro i t hi ht
      rw [hpl] at hi
      by_cases he : i = pre.length
      · subst he
        obtain ⟨g1, g2⟩ := hnode t ht
        rw [List.getD_eq_getElem?_getD, List.getElem?_append_right (by omega), ha, Nat.sub_self]
        exact ⟨g1.symm, by rw [g2]; exact dt hz⟩
      · have := hR i t (by omega) ht
        rw [List.getD_eq_getElem?_getD, List.getElem?_append_left (by omega), ← List.getD_eq_getElem?_getD]
        exact this
    · rw [if_pos hz]
      exact ⟨rfl, hz, pre.length, hil, fun t ht => by rw [(hnode t ht).2]; exact df hz⟩

theorem okTs_of {ts : List Tr} {t : Tr} (h : t ∈ ts) (hb : okT S U t = false) : okTs S U ts = false := by
  induction ts with
  | nil => cases h
  | cons u ts ih =>
    rw [okTs]
    rcases List.mem_cons.1 h with rfl | h
    · rw [hb]; rfl
    · rw [ih h]; simp

theorem ok_up {e : List Nd} (h : mayB e = true) {i : Nat} (hi : i < e.length) (hb : ∀ t, Emb e i t → okT S U t = false) : ∀ t, Emb e (e.length - 1) t → okT S U t = false := by
  refine may_up h (fun j => ∀ t, Emb e j t → okT S U t = false) (fun i n k hn hk hp t ht => ?_) (e.length - 1 - i) i (by omega) hi hb
  obtain ⟨b, ks⟩ := t
  obtain ⟨m, h1, h2, h3, h4⟩ := ht
  rw [hn] at h1
  obtain rfl := Option.some.inj h1
  obtain ⟨u, h5, h6⟩ := embs_mem _ _ h4 k hk
  rw [okT_eq, okTs_of S U h5 (hp u h6)]; rfl

/-- **The type of an expression, said of its tree.** -/
theorem ofTy_tree {e : List Nd} {t : Tr} (h : mayB e = true) (ht : Emb e (e.length - 1) t) :
    (okT S U t = true → ofTy e S U = (typT S U t, 0)) ∧ (okT S U t = false → (ofTy e S U).1 = 0 ∧ (ofTy e S U).2 ≠ 0) := by
  obtain ⟨m1, m2, _, _⟩ := norm_may h
  have hM := may_P m1
  have hpos := List.length_pos_iff.2 hM.ne
  have htn := norm_tree h ht
  have h0 := typL_emb S U hM (norm e) [] [] rfl rfl (fun i t hi => by simp at hi)
  rw [ofTy, if_pos h]
  cases hL : typL S U (norm e) (norm e) [] with
  | inl x =>
    rw [hL] at h0
    obtain ⟨g1, g2, i, hi, hb⟩ := h0
    have := ok_up S U m1 hi hb t htn
    exact ⟨fun hh => (by rw [this] at hh; cases hh), fun _ => ⟨g1, g2⟩⟩
  | inr l =>
    rw [hL] at h0
    have hr := h0 ((norm e).length - 1) t (by omega) htn
    have hll := typL_len _ _ _ hL
    simp only [List.length_nil, Nat.zero_add] at hll
    refine ⟨fun _ => ?_, fun hh => by rw [hr.2] at hh; cases hh⟩
    have hg : l.getLastD 0 = l.getD ((norm e).length - 1) 0 := by
      rw [List.getLastD_eq_getLast?, List.getLast?_eq_getElem?, hll, List.getD_eq_getElem?_getD]
    simp only [hg, hr.1]

theorem ofTy_not {e : List Nd} (h : mayB e = false) : ofTy e S U = (0, 1) := by rw [ofTy, h]; rfl
end

end Go.Proofs.Ytomofgclaiaikaa.R
