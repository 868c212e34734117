/-
  OUR OWN: what may be written, and its text; law ShowOrder.
-/
import Derived.Test.YtoippcahbninnaaDoorShwB
namespace Go.Proofs.YtoippcahbninnaaDoor.R
open Go Go.Bm Go.Proofs
set_option linter.unusedVariables false
set_option linter.unusedSimpArgs false
set_option maxRecDepth 4000

def nameN (n : Nd) : Bool := (n.2.2.2.2.2 == ([] : Str)) || nameB n.2.2.2.2.2
mutual
def namesT : Tr → Bool
  | .mk b ks => nameN b && namesL ks
def namesL : List Tr → Bool
  | [] => true
  | t :: r => namesT t && namesL r
end

theorem strange_eq (n : Nd) : c55 T.rf n = some (!(nameN n)) := or55 (by
  simp only [r55, isName_eq, Option.bind_some, nameN]
  cases (n.2.2.2.2.2 == ([] : Str)) <;> rfl)

theorem idx_loop (e : List Nd) : ∀ (suf pre : List Nd), e = pre ++ suf → e.length ≤ 1000000 →
    ∃ z, k51 T.rb e ((e.length : Nat) : Int) (pre.length : Nat) = some z ∧ ((suf.all nameN = true ∧ z = .inr ()) ∨ (suf.all nameN = false ∧ ∃ j : Nat, z = .inl (j : Int)))
  | [], pre, h, hl => ⟨.inr (), ob51 (by
      subst h
      simp only [b51, lt_end, cond_false]), .inl ⟨rfl, rfl⟩⟩
  | x :: suf, pre, h, hl => by
    obtain ⟨z, h1, h2⟩ := idx_loop e suf (pre ++ [x]) (by rw [h]; simp) hl
    have hpl : pre.length < 4611686018427387904 := by rw [h] at hl; simp at hl; omega
    cases hx : nameN x with
    | false =>
      refine ⟨.inl (pre.length : Nat), ob51 ?_, .inr ⟨by simp [hx], _, rfl⟩⟩
      subst h
      simp only [b51, lt_mid, inb_mid, nth_mid, cond_true, Option.bind_some, strange_eq, hx, Bool.not_false]
    | true =>
      refine ⟨z, ob51 ?_, by simpa [hx] using h2⟩
      subst h
      simp only [b51, lt_mid, inb_mid, nth_mid, cond_true, cond_false, Option.bind_some, strange_eq, hx, Bool.not_true, next_mid pre x hpl]
      exact h1

theorem contains_eq {e : List Nd} (h : e.length ≤ 1000000) : c53 T.rf e = some (!(e.all nameN)) := or53 (by
  obtain ⟨z, h1, h2⟩ := idx_loop e e [] rfl h
  simp only [List.length_nil] at h1
  rw [show ((0 : Nat) : Int) = (0 : Int) from rfl] at h1
  rcases h2 with ⟨g, rfl⟩ | ⟨g, j, rfl⟩
  · have : c54 T.rf e = some (-1) := or54 (by simp only [r54, h1, Option.bind_some])
    simp only [r53, this, Option.bind_some, g]; rfl
  · have : c54 T.rf e = some (j : Int) := or54 (by simp only [r54, h1, Option.bind_some])
    simp only [r53, this, Option.bind_some, g, dt (show (j : Int) ≥ 0 by omega)]; rfl)

def mayS (e : List Nd) : Bool := mayB e && e.all nameN
theorem mayS_eq {e : List Nd} (h : e.length ≤ 1000000) : c44 T.rf e = some (mayS e) := or44 (by
  simp only [r44, May_eq h, contains_eq h, Option.bind_some, mayS]
  cases mayB e <;> cases e.all nameN <;> rfl)

/-! ### Names of a list, and of its tree -/
mutual
theorem emb_names {e : List Nd} (ha : e.all nameN = true) : ∀ (t : Tr) (i : Nat), Emb e i t → namesT t = true
  | .mk b ks, i, ⟨n, h1, h2, h3, h4⟩ => by
    have hn : nameN n = true := List.all_eq_true.1 ha n (by rw [nth_getElem?] at h1; exact List.mem_of_getElem? h1)
    rw [namesT, embs_names ha ks i _ h4, h2]
    exact by rw [show nameN (blank n) = nameN n from rfl, hn]; rfl
theorem embs_names {e : List Nd} (ha : e.all nameN = true) : ∀ (ts : List Tr) (i : Nat) (l : List Int), Embs e i l ts → namesL ts = true
  | [], _, _, _ => rfl
  | t :: ts, i, k :: l, ⟨_, _, h3, h4⟩ => by rw [namesL, emb_names ha t _ h3, embs_names ha ts i l h4]; rfl
  | t :: ts, i, [], h => h.elim
end

theorem embs_mem {e : List Nd} {i : Nat} : ∀ {l : List Int} {ts : List Tr} {k : Int}, Embs e i l ts → k ∈ l → ∃ u, u ∈ ts ∧ Emb e k.toNat u
  | [], _, _, _, h => by cases h
  | x :: l, [], _, h, _ => h.elim
  | x :: l, t :: ts, k, ⟨_, _, h3, h4⟩, h => by
    rcases List.mem_cons.1 h with h | h
    · subst h; exact ⟨t, by simp, h3⟩
    · obtain ⟨u, g1, g2⟩ := embs_mem h4 h
      exact ⟨u, List.mem_cons_of_mem _ g1, g2⟩
theorem namesL_mem : ∀ {ts : List Tr} {u : Tr}, u ∈ ts → namesT u = false → namesL ts = false
  | t :: ts, u, h, hu => by
    rw [namesL]
    rcases List.mem_cons.1 h with h | h
    · subst h; rw [hu]; rfl
    · rw [namesL_mem h hu, Bool.and_false]

theorem names_tree {e : List Nd} {t : Tr} (h : mayB e = true) (ht : Emb e (e.length - 1) t) : e.all nameN = namesT t := by
  cases ha : e.all nameN with
  | true => exact (emb_names ha t _ ht).symm
  | false =>
    obtain ⟨n, hn, hbad⟩ := List.all_eq_false.1 ha
    obtain ⟨j, hj⟩ := List.mem_iff_getElem?.1 hn
    have hjl : j < e.length := (List.getElem?_eq_some_iff.1 hj).1
    have key := may_up h (fun j => ∀ u, Emb e j u → namesT u = false) (fun i n k h1 h2 h3 u hu => by
      obtain ⟨b, ks⟩ := u
      obtain ⟨n', g1, g2, g3, g4⟩ := hu
      rw [h1] at g1; cases g1
      obtain ⟨v, w1, w2⟩ := embs_mem g4 h2
      rw [namesT, namesL_mem w1 (h3 v w2), Bool.and_false]) (e.length - 1 - j) j (by omega) hjl (fun u hu => by
      obtain ⟨b, ks⟩ := u
      obtain ⟨n', g1, g2, g3, g4⟩ := hu
      rw [nth_getElem?, hj] at g1; cases g1
      rw [namesT, g2, show nameN (blank n) = nameN n from rfl]
      have : nameN n = false := by simpa using hbad
      rw [this]; rfl)
    exact (key t ht).symm

/-! ### No token is long -/
theorem digX_len : ∀ (k n : Nat) (l : List UInt8), (digX k n l).length ≤ k + l.length
  | 0, _, l => by simp [digX]
  | k + 1, n, l => by
    unfold digX
    cases Nat.blt n 10 with
    | true => simp; omega
    | false => rw [cond_false]; have := digX_len k (n / 10) (UInt8.ofNat (48 + n % 10) :: l); simp only [List.length_cons] at this; omega
theorem itoaX_len (n : Int) : (itoaX n).length ≤ 40 := by
  unfold itoaX
  split
  · have := digX_len 20 ‹Nat› []; simp at this; omega
  · rename_i k; have := digX_len 20 (k + 1) []; simp at this; simp; omega
theorem opX_len (op : Int) : (opX op).length ≤ 40 := by
  unfold opX markX
  split
  · rename_i h
    have : ∀ k, k < 28 → (opsL.getD k ([], -1)).1.length ≤ 40 := by decide +kernel
    exact this _ (by omega)
  · simp
theorem boolX_len (n : Int) : (boolX n).length ≤ 40 := by unfold boolX; split <;> simp
theorem nameN_len {n : Nd} (h : nameN n = true) : n.2.2.2.2.2.length ≤ 40 := by
  unfold nameN at h
  rw [Bool.or_eq_true] at h
  rcases h with h | h
  · rw [eq_of_beq h]; simp
  · simp only [nameB, Bool.and_eq_true, decide_eq_true_eq] at h
    exact h.2.1

def Small (l : List Str) : Prop := ∀ s ∈ l, List.length s ≤ 40
theorem Small.part {a : Int} {x : Int × List Str} (h : Small x.2) : Small (partX a x) := by
  unfold partX; split
  · exact h
  · intro s hs
    simp only [List.mem_cons, List.mem_append, List.not_mem_nil, or_false] at hs
    rcases hs with rfl | hs | rfl
    · simp
    · exact h s hs
    · simp
theorem tokB_small {b : Nd} (hb : nameN b = true) {l : List (Int × List Str)} (hl : ∀ x ∈ l, Small x.2) : Small (tokB b l) := by
  have hnm := nameN_len hb
  unfold tokB
  split
  · intro s hs; simp at hs; subst hs; exact itoaX_len _
  split
  · intro s hs; simp at hs; subst hs; exact boolX_len _
  split
  · intro s hs; simp at hs; subst hs; exact hnm
  split
  · split
    · rename_i x
      intro s hs
      simp only [List.mem_cons, List.mem_append, List.not_mem_nil, or_false] at hs
      rcases hs with rfl | rfl | hs | rfl
      · exact hnm
      · simp
      · exact hl x (by simp) s hs
      · simp
    · intro s hs
      simp only [List.mem_cons, List.not_mem_nil, or_false] at hs
      rcases hs with rfl | rfl | rfl
      · exact hnm
      · simp
      · simp
  split
  · rename_i x
    have hx := hl x (by simp)
    split
    · exact hx
    split
    · intro s hs
      simp only [List.mem_cons] at hs
      rcases hs with rfl | rfl | hs
      · exact opX_len _
      · exact itoaX_len _
      · exact Small.part hx s hs
    · intro s hs
      simp only [List.mem_cons] at hs
      rcases hs with rfl | hs
      · exact opX_len _
      · exact Small.part hx s hs
  · rename_i x y
    have hx := hl x (by simp)
    have hy := hl y (by simp)
    split
    · intro s hs
      simp only [List.mem_cons, List.mem_append] at hs
      rcases hs with hs | rfl | hs
      · exact hx s hs
      · simp
      · exact hy s hs
    · intro s hs
      simp only [List.mem_cons, List.mem_append] at hs
      rcases hs with hs | rfl | hs
      · exact Small.part hx s hs
      · exact opX_len _
      · exact Small.part hy s hs
  · rename_i x y z
    have hx := hl x (by simp)
    have hy := hl y (by simp)
    have hz := hl z (by simp)
    intro s hs
    simp only [List.mem_cons, List.mem_append] at hs
    rcases hs with rfl | hs | rfl | hs | rfl | hs
    · exact opX_len _
    · exact hx s hs
    · simp
    · exact hy s hs
    · simp
    · exact hz s hs
  · intro s hs; cases hs

mutual
theorem toks_small : ∀ (t : Tr), namesT t = true → Small (toks t)
  | .mk b ks, h => by
    rw [namesT, Bool.and_eq_true] at h
    rw [toks]
    exact tokB_small h.1 (toksL_small ks h.2)
theorem toksL_small : ∀ (ts : List Tr), namesL ts = true → ∀ x ∈ toksL ts, Small x.2
  | [], _, x, hx => by cases hx
  | t :: ts, h, x, hx => by
    rw [namesL, Bool.and_eq_true] at h
    rw [toksL, List.mem_cons] at hx
    rcases hx with rfl | hx
    · exact toks_small t h.1
    · exact toksL_small ts h.2 x hx
end

/-- Tokens' texts put together: blanks ahead of each; and between any two. -/
def J (l : List Str) : Str := l.flatMap fun s => 32 :: s
theorem joinR_J : ∀ l : List Str, joinR (l.map mkT) = J l
  | [] => rfl
  | x :: l => by rw [List.map_cons, joinR, joinR_J l]; simp [J, mkT]
def txt (l : List Str) : Str := (J l).drop 1
theorem joinX_txt : ∀ l : List Str, joinX (l.map mkT) = txt l
  | [] => rfl
  | x :: l => by rw [List.map_cons, joinX, joinR_J]; simp [txt, J, mkT]
theorem J_len {l : List Str} (h : Small l) : (J l).length ≤ 41 * l.length := by
  induction l with
  | nil => simp [J]
  | cons x l ih =>
    have h1 := h x (by simp)
    have := ih fun s hs => h s (List.mem_cons_of_mem _ hs)
    simp only [J, List.flatMap_cons, List.length_append, List.length_cons] at this ⊢
    omega
theorem txt_len {l : List Str} (h : Small l) : (txt l).length ≤ 41 * l.length := by
  have := J_len h
  unfold txt
  rw [List.length_drop]; omega

/-- **What package show writes.** -/
theorem Show_tree {e : List Nd} {t : Tr} (h : mayB e = true) (ht : Emb e (e.length - 1) t) (hv : Valid t) (hs : t.size ≤ 5000) (hop : t.op ≠ 28) (hl : e.length ≤ 1000000) :
    c43 T.rf e = some (if namesT t = true then txt (toks t) else []) := or43 (by
  have hpos := List.length_pos_iff.2 (may_P h).ne
  simp only [r43, mayS_eq hl, Option.bind_some, mayS, h, Bool.true_and, names_tree h ht]
  cases hn : namesT t with
  | false => rfl
  | true =>
    have w := (show_walk t.size t (e.length - 1) [] (Nat.le_refl _) ht hv (by simp; omega)).1 hop
    have hlen := (toks_len t.size t _ (Nat.le_refl _) ht hv).2
    have hb := txt_len (toks_small t hn)
    have hj : c74 T.rf ((toks t).map mkT) = some (txt (toks t)) := or74 (by
      simp only [r74, joinX_txt, ble_most (show (txt (toks t)).length ≤ 274877906944 by omega), cond_true])
    rw [last_i (may_P h).ne (by omega)]
    rw [List.nil_append] at w
    rw [Bool.not_true, cond_false, w, Option.bind_some, hj]
    rfl)

theorem Show_not {e : List Nd} (h : mayB e = false) (hl : e.length ≤ 1000000) : c43 T.rf e = some [] := or43 (by
  simp only [r43, mayS_eq hl, Option.bind_some, mayS, h, Bool.false_and]; rfl)

/-- The tree of what is in order. -/
theorem norm_tree {e : List Nd} (h : mayB e = true) : ∃ t, Emb e (e.length - 1) t ∧ Valid t ∧ t.op ≠ 28 ∧ t.size ≤ 5000 ∧ t.size = e.length ∧ norm e = flat t 0 ∧ mayB (flat t 0) = true ∧ Emb (flat t 0) ((flat t 0).length - 1) t := by
  obtain ⟨t, h1, h2, h3, h4, h5, h6, h7⟩ := may_tree h
  have hE := emb_flat t [] [] h2
  simp only [List.nil_append, List.append_nil, List.length_nil, Nat.zero_add] at hE
  have hm := (norm_may h).1
  rw [norm_flat h h1] at hm
  exact ⟨t, h1, h2, h4, h7, h3, norm_flat h h1, hm, by rw [flat_len]; exact hE⟩

end Go.Proofs.YtoippcahbninnaaDoor.R
