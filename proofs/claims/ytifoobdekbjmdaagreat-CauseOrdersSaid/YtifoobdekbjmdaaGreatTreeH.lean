/-
  OUR OWN: a tree laid flat may be; what may be is a tree.
-/
import Derived.Test.YtifoobdekbjmdaaGreatTreeG
namespace Go.Proofs.YtifoobdekbjmdaaGreat.R
open Go Go.Bm Go.Proofs
set_option linter.unusedVariables false
set_option linter.unusedSimpArgs false
set_option maxRecDepth 4000

theorem emb_lt {e : List Nd} {i : Nat} : ∀ {t : Tr}, Emb e i t → i < e.length
  | .mk b ks, ⟨n, hn, _⟩ => by rw [nth_getElem?] at hn; exact (List.getElem?_eq_some_iff.1 hn).1

theorem opAt_of {e : List Nd} {i : Nat} {n : Nd} (h : nth e i = some n) : opAt e i = n.1 := by
  rw [nth_getElem?] at h
  rw [opAt, List.getD_eq_getElem?_getD, h]; rfl

theorem emb_op {e : List Nd} {i : Nat} : ∀ {t : Tr}, Emb e i t → opAt e i = t.op
  | .mk b ks, ⟨n, hn, hb, _⟩ => by rw [opAt_of hn, Tr.op, hb]; rfl

theorem argB_T {e : List Nd} {n b : Nd} {a : Nat} {k : Int} {t : Tr} (hb : b = blank n) (ht : Emb e k.toNat t) : argB e n a k = argT b (kids n).length a t.op := by
  unfold argB argT
  rw [emb_op ht, show b.1 = n.1 by rw [hb]; rfl]
  by_cases h28 : n.1 = 28
  · have := kids28 n h28
    by_cases hb' : n.2.2.1 = -1
    · rw [df (show ¬ n.2.2.1 ≠ -1 from fun h => h hb'), df (show ¬ (kids n).length = 2 from fun h => this.1 h hb')]
    · rw [dt (show n.2.2.1 ≠ -1 from hb'), dt (this.2 hb')]
  · rw [df h28]; simp

theorem argsB_T {e : List Nd} {n b : Nd} {i : Nat} (hb : b = blank n) : ∀ (l : List Int) (ts : List Tr) (a : Nat), Embs e i l ts → argsB e n l a = argsT b (kids n).length ts a
  | [], [], a, _ => rfl
  | k :: l, t :: ts, a, ⟨_, _, h3, h4⟩ => by rw [argsB, argsT, argB_T hb h3, argsB_T hb l ts (a + 1) h4]
  | [], _ :: _, a, h => by simp [Embs] at h
  | _ :: _, [], a, h => by simp [Embs] at h

mutual
theorem valid_emb {e : List Nd} (hM : MayP e) : ∀ (t : Tr) (i : Nat), Emb e i t → Valid t
  | .mk b ks, i, ⟨n, hn, hb, hna, hks⟩ => by
    have hno := of_decide_eq_true (hM.node i n hn)
    have hal := hM.ahead i n hn
    have hl := Embs_len hks
    have hk3 := kids_len n
    have hA := kids_aim n (by rw [← hb]; exact hna) (fun x hx => by have := hal x hx; omega)
    rw [Valid, ← hl]
    refine ⟨?_, by rw [hb]; exact hA, hk3, ?_, ?_, valids_emb hM ks i (kids n) hks⟩
    · rw [hb]; rfl
    · rw [hb]; exact ⟨hno.1, hno.2.1, hno.2.2.2.1, hno.2.2.2.2.1, hno.2.2.2.2.2⟩
    · rw [← argsB_T (e := e) (i := i) hb (kids n) ks 0 hks]; exact hM.args i n hn
theorem valids_emb {e : List Nd} (hM : MayP e) : ∀ (ts : List Tr) (i : Nat) (l : List Int), Embs e i l ts → Valids ts
  | [], i, l, _ => trivial
  | t :: ts, i, l, h => by
    cases l with
    | nil => simp [Embs] at h
    | cons k l => obtain ⟨_, _, h3, h4⟩ := h; exact ⟨valid_emb hM t _ h3, valids_emb hM ts i l h4⟩
end

theorem roots_ge : ∀ (ks : List Tr) (o : Nat) (x : Int), x ∈ roots ks o → (o : Int) ≤ x ∧ x < o + sizes ks
  | [], o, x, h => by simp [roots] at h
  | t :: r, o, x, h => by
    have hs := t.size_pos
    rw [roots] at h
    rw [sizes]
    rcases List.mem_cons.1 h with h | h
    · subst h; omega
    · have := roots_ge r (o + t.size) x h; omega

mutual
theorem emb_flat : ∀ (t : Tr) (pre suf : List Nd), Valid t → Emb (pre ++ (flat t pre.length ++ suf)) (pre.length + t.size - 1) t
  | .mk b ks, pre, suf, ⟨h1, h2, h3, h4, h5, h6⟩ => by
    have hr := roots_len ks pre.length
    have hk : kids (aim b (roots ks pre.length)) = roots ks pre.length := h2 _ hr fun x hx => by have := roots_ge ks _ x hx; omega
    have hE := embs_flat ks pre ([aim b (roots ks pre.length)] ++ suf) (pre.length + sizes ks) h6 (Nat.le_refl _)
    refine ⟨aim b (roots ks pre.length), ?_, ?_, by rw [hk], ?_⟩
    · rw [flat, Tr.size, nth_getElem?, List.getElem?_append_right (by omega), List.append_assoc, List.getElem?_append_right (by rw [flats_len]; omega), flats_len]
      rw [show pre.length + (sizes ks + 1) - 1 - pre.length - sizes ks = 0 by omega]; rfl
    · rw [blank_aim]; exact h1
    · rw [hk, flat, Tr.size, List.append_assoc, show pre.length + (sizes ks + 1) - 1 = pre.length + sizes ks by omega]
      exact hE
theorem embs_flat : ∀ (ks : List Tr) (pre suf : List Nd) (i : Nat), Valids ks → pre.length + sizes ks ≤ i → Embs (pre ++ (flats ks pre.length ++ suf)) i (roots ks pre.length) ks
  | [], pre, suf, i, _, _ => trivial
  | t :: r, pre, suf, i, ⟨h1, h2⟩, hi => by
    have hs := t.size_pos
    rw [sizes] at hi
    have h3 := emb_flat t pre (flats r (pre.length + t.size) ++ suf) h1
    have h4 := embs_flat r (pre ++ flat t pre.length) suf i h2 (by rw [List.length_append, flat_len]; omega)
    rw [List.length_append, flat_len] at h4
    have e1 : (pre ++ flat t pre.length) ++ (flats r (pre.length + t.size) ++ suf) = pre ++ (flats (t :: r) pre.length ++ suf) := by rw [flats]; simp
    have e2 : pre ++ (flat t pre.length ++ (flats r (pre.length + t.size) ++ suf)) = pre ++ (flats (t :: r) pre.length ++ suf) := by rw [flats]; simp
    rw [e1] at h4
    rw [e2] at h3
    refine ⟨by omega, by omega, ?_, h4⟩
    rw [Int.toNat_natCast]
    exact h3
end

/-! ### How deep -/
theorem depL_take : ∀ (suf : List Nd) (acc : List Int), (depL suf acc).take acc.length = acc
  | [], acc => by simp [depL]
  | n :: r, acc => by
    have := depL_take r (acc ++ [deepest acc (kids n) 0 + 1])
    rw [depL]
    have h2 := congrArg (List.take acc.length) this
    rw [List.take_take] at h2
    rw [show min acc.length (acc ++ [deepest acc (kids n) 0 + 1]).length = acc.length by simp] at h2
    rw [h2]; simp

theorem depL_get : ∀ (suf : List Nd) (acc : List Int) (j : Nat) (n : Nd), nth suf j = some n → (depL suf acc).getD (acc.length + j) 0 = deepest ((depL suf acc).take (acc.length + j)) (kids n) 0 + 1
  | [], acc, j, n, h => by simp [nth] at h
  | m :: r, acc, 0, n, h => by
    simp only [nth, Option.some.injEq] at h
    subst h
    rw [depL]
    have ht := depL_take r (acc ++ [deepest acc (kids m) 0 + 1])
    have hl : (acc ++ [deepest acc (kids m) 0 + 1]).length = acc.length + 1 := by simp
    rw [hl] at ht
    have h1 : (depL r (acc ++ [deepest acc (kids m) 0 + 1])).take acc.length = acc := by
      have h2 := congrArg (List.take acc.length) ht
      rw [List.take_take] at h2
      rw [show min acc.length (acc.length + 1) = acc.length by omega] at h2
      rw [h2]; simp
    have h3 : (depL r (acc ++ [deepest acc (kids m) 0 + 1]))[acc.length]? = some (deepest acc (kids m) 0 + 1) := by
      have h4 := congrArg (fun l => l[acc.length]?) ht
      simp only [List.getElem?_take] at h4
      rw [if_pos (by omega)] at h4
      rw [h4]; simp
    rw [Nat.add_zero, h1, List.getD_eq_getElem?_getD, h3]; rfl
  | m :: r, acc, j + 1, n, h => by
    have ih := depL_get r (acc ++ [deepest acc (kids m) 0 + 1]) j n (by simpa [nth] using h)
    have hl : (acc ++ [deepest acc (kids m) 0 + 1]).length + j = acc.length + (j + 1) := by simp; omega
    rw [hl] at ih
    rw [depL]; exact ih

mutual
theorem dep_emb {e : List Nd} : ∀ (t : Tr) (i : Nat), Emb e i t → (depL e []).getD i 0 = dep t
  | .mk b ks, i, ⟨n, hn, hb, hna, hks⟩ => by
    have := depL_get e [] i n hn
    rw [List.length_nil, Nat.zero_add] at this
    have hil : i < e.length := by rw [nth_getElem?] at hn; exact (List.getElem?_eq_some_iff.1 hn).1
    rw [this, dep, deps_emb ks i (kids n) 0 hks hil]
theorem deps_emb {e : List Nd} : ∀ (ts : List Tr) (i : Nat) (l : List Int) (m : Int), Embs e i l ts → i < e.length → deepest ((depL e []).take i) l m = deps ts m
  | [], i, l, m, h, hi => by
    cases l with
    | nil => rfl
    | cons k l => simp [Embs] at h
  | t :: ts, i, l, m, h, hi => by
    cases l with
    | nil => simp [Embs] at h
    | cons k l =>
      obtain ⟨h1, h2, h3, h4⟩ := h
      have hlen : (depL e []).length = e.length := by rw [depL_len]; simp
      have hk : k < ((depL e []).take i).length := by rw [List.length_take, hlen]; omega
      have hg : ((depL e []).take i).getD k.toNat 0 = dep t := by
        rw [← dep_emb t k.toNat h3, List.getD_eq_getElem?_getD, List.getD_eq_getElem?_getD, List.getElem?_take, if_pos (by omega)]
      rw [deepest, if_pos ⟨h1, hk⟩, hg, deps, deps_emb ts i l _ h4 hi]
end

theorem depth_emb {e : List Nd} {t : Tr} (h : Emb e (e.length - 1) t) : depth e = dep t := by
  have hl := emb_lt h
  have hlen : (depL e []).length = e.length := by rw [depL_len]; simp
  rw [← dep_emb t _ h, depth, List.getLastD_eq_getLast?, List.getLast?_eq_getElem?, List.getD_eq_getElem?_getD, hlen]

/-! ### A tree laid flat may be -/
mutual
def wT : Tr → Nat → List Nat
  | .mk b ks, o => wTs ks o ++ (roots ks o).map Int.toNat
def wTs : List Tr → Nat → List Nat
  | [], _ => []
  | t :: r, o => wT t o ++ wTs r (o + t.size)
end

theorem scanR_app (e : List Nd) : ∀ (a b : List Nd) (i : Nat) (V : List Nat), scanR e (a ++ b) i V = (scanR e a i V).bind fun V' => scanR e b (i + a.length) V'
  | [], b, i, V => rfl
  | n :: a, b, i, V => by
    rw [List.cons_append, scanR, scanR]
    split
    · rw [scanR_app e a b]
      have : i + 1 + a.length = i + (n :: a).length := by simp; omega
      rw [this]
    · rfl

theorem node_aim {b : Nd} {l : List Int} (h1 : b = blank b) (hA : kids (aim b l) = l) (h4 : 1 ≤ b.1 ∧ b.1 ≤ 28 ∧ 0 ≤ b.2.2.2.2.1 ∧ b.2.2.2.2.1 ≤ mostN b.1 ∧ (b.2.2.2.2.2 ≠ [] ↔ (b.1 = 3 ∨ b.1 = 27))) : nodeB (aim b l) = true := by
  unfold nodeB
  have hb : ((aim b l).1, (-1 : Int), (-1 : Int), (-1 : Int), (aim b l).2.2.2.2) = b := by
    have := blank_aim b l
    rw [← h1] at this
    exact this
  rw [hb, hA, aim_op, aim_rest]
  exact dt ⟨h4.1, h4.2.1, rfl, h4.2.2.1, h4.2.2.2.1, h4.2.2.2.2⟩

mutual
theorem scanR_flat : ∀ (t : Tr) (pre suf : List Nd) (V : List Nat), Valid t → scanR (pre ++ (flat t pre.length ++ suf)) (flat t pre.length) pre.length V = some (V ++ wT t pre.length)
  | .mk b ks, pre, suf, V, ⟨h1, h2, h3, h4, h5, h6⟩ => by
    have hr := roots_len ks pre.length
    have hk : kids (aim b (roots ks pre.length)) = roots ks pre.length := h2 _ hr fun x hx => by have := roots_ge ks _ x hx; omega
    have hE := embs_flat ks pre ([aim b (roots ks pre.length)] ++ suf) (pre.length + sizes ks) h6 (Nat.le_refl _)
    have hS := scanR_flats ks pre ([aim b (roots ks pre.length)] ++ suf) V h6
    have hbl : b = blank (aim b (roots ks pre.length)) := by rw [blank_aim]; exact h1
    rw [flat, List.append_assoc, scanR_app, hS, Option.bind_some, flats_len, scanR]
    have hargs := argsB_T (e := pre ++ (flats ks pre.length ++ ([aim b (roots ks pre.length)] ++ suf))) hbl (roots ks pre.length) ks 0 hE
    rw [hk, hr] at hargs
    have hr2 : rangeB (pre.length + sizes ks) (kids (aim b (roots ks pre.length))) = true := by
      rw [hk]
      refine List.all_eq_true.2 fun x hx => dt ?_
      have := roots_ge ks _ x hx
      omega
    rw [if_pos ⟨node_aim h1 hk h4, hr2, by rw [hk, hargs, h5]⟩]
    rw [hk, scanR, wT, List.append_assoc]
theorem scanR_flats : ∀ (ks : List Tr) (pre suf : List Nd) (V : List Nat), Valids ks → scanR (pre ++ (flats ks pre.length ++ suf)) (flats ks pre.length) pre.length V = some (V ++ wTs ks pre.length)
  | [], pre, suf, V, _ => by simp [flats, scanR, wTs]
  | t :: r, pre, suf, V, ⟨h1, h2⟩ => by
    have h3 := scanR_flat t pre (flats r (pre.length + t.size) ++ suf) V h1
    have h4 := scanR_flats r (pre ++ flat t pre.length) suf (V ++ wT t pre.length) h2
    rw [List.length_append, flat_len] at h4
    have e1 : (pre ++ flat t pre.length) ++ (flats r (pre.length + t.size) ++ suf) = pre ++ (flats (t :: r) pre.length ++ suf) := by rw [flats]; simp
    have e2 : pre ++ (flat t pre.length ++ (flats r (pre.length + t.size) ++ suf)) = pre ++ (flats (t :: r) pre.length ++ suf) := by rw [flats]; simp
    rw [e1] at h4
    rw [e2] at h3
    conv => lhs; arg 2; rw [flats]
    rw [scanR_app, h3, Option.bind_some, flat_len, h4, wTs, List.append_assoc]
end

mutual
theorem count_wT (x : Nat) : ∀ (t : Tr) (o : Nat), (wT t o).count x = if o ≤ x ∧ x + 1 < o + t.size then 1 else 0
  | .mk b ks, o => by
    have := count_wTs x ks o
    rw [wT, List.count_append, this, Tr.size]
    by_cases h : o ≤ x ∧ x < o + sizes ks
    · rw [if_pos h, if_pos (by omega)]
    · rw [if_neg h, if_neg (by omega)]
theorem count_wTs (x : Nat) : ∀ (ks : List Tr) (o : Nat), (wTs ks o).count x + ((roots ks o).map Int.toNat).count x = if o ≤ x ∧ x < o + sizes ks then 1 else 0
  | [], o => by rw [if_neg (by rw [sizes]; omega)]; rfl
  | t :: r, o => by
    have h1 := count_wT x t o
    have h2 := count_wTs x r (o + t.size)
    have hs := t.size_pos
    rw [wTs, roots, sizes, List.count_append, List.map_cons, List.count_cons, Int.toNat_natCast, h1]
    by_cases hx : o + t.size - 1 = x
    · have e : ((o + t.size - 1 == x) = true) := beq_iff_eq.2 hx
      rw [if_pos e, if_neg (by omega), if_pos (by omega)]
      rw [if_neg (by omega)] at h2
      omega
    · have e : ¬ ((o + t.size - 1 == x) = true) := fun h => hx (beq_iff_eq.1 h)
      rw [if_neg e]
      by_cases h3 : o ≤ x ∧ x + 1 < o + t.size
      · rw [if_neg (by omega)] at h2
        rw [if_pos h3, if_pos (by omega)]; omega
      · rw [if_neg h3]
        by_cases h4 : o + t.size ≤ x ∧ x < o + t.size + sizes r
        · rw [if_pos h4] at h2
          rw [if_pos (by omega)]; omega
        · rw [if_neg h4] at h2
          rw [if_neg (by omega)]; omega
end

/-- **A tree laid flat may be, if the tree may.** -/
theorem may_flat {t : Tr} (hv : Valid t) : mayB (flat t 0) = (decide (t.size ≤ 5000) && (decide (t.op ≠ 28) && decide (dep t ≤ 40))) := by
  have hs := t.size_pos
  have hlen := flat_len t 0
  have hne : flat t 0 ≠ [] := fun h => by rw [h] at hlen; simp at hlen; omega
  have hE := emb_flat t [] [] hv
  simp only [List.nil_append, List.append_nil, List.length_nil, Nat.zero_add] at hE
  have hS := scanR_flat t [] [] [] hv
  simp only [List.nil_append, List.append_nil, List.length_nil] at hS
  have hc := fun x => count_wT x t 0
  have hnd : (wT t 0).Nodup := (nod_count _).2 fun j => by rw [hc j]; split <;> omega
  have hsc := (scan_iff (flat t 0) (flat t 0) 0 [] (wT t 0) (by simp)).2 ⟨hS, hnd⟩
  have hall : ((List.range (t.size - 1)).all fun j => decide (j ∈ wT t 0)) = true := List.all_eq_true.2 fun j hj => by
    have h1 := List.mem_range.1 hj
    have := hc j
    rw [if_pos (by omega)] at this
    exact dt (List.count_pos_iff.1 (by omega))
  have hE' : Emb (flat t 0) ((flat t 0).length - 1) t := by rw [hlen]; exact hE
  unfold mayB
  rw [hsc, hlen, dt hne, Bool.true_and, emb_op hE, depth_emb hE']
  simp only [hall, Bool.true_and]

end Go.Proofs.YtifoobdekbjmdaaGreat.R
