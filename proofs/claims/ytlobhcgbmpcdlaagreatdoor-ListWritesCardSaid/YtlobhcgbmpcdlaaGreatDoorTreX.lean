import Derived.Test.YtlobhcgbmpcdlaaGreatDoorResRun
import Derived.Test.YtlobhcgbmpcdlaaGreatDoorBmF
open Option (bind_some)
open List (length_append length_cons length_nil)
open Bool (and_eq_true)
section
namespace Go.Proofs.YtlobhcgbmpcdlaaGreatDoor.R
open Go Go.Bm Go.Proofs
set_option linter.unusedVariables false
set_option linter.unusedSimpArgs false
set_option maxRecDepth 4000
theorem a5L (n : Nd) : c94 T.rf n = some (kids n) := d6j (by
 obtain ⟨op, a, b, c, k, nm⟩ := n
 by_cases h1 : op = 26
 · subst h1; rfl
 by_cases h2 : op = 28
 · subst h2
   by_cases hb : b = -1
   · subst hb; rfl
   · simp [r94, kids, hb, nbf hb]
 by_cases h3 : op = 27
 · subst h3
   by_cases ha : a = -1
   · subst ha; rfl
   · simp [r94, kids, ha, nbf ha, bf ha]
 by_cases h4 : op = 4
 · subst h4; rfl
 by_cases h5 : op = 5
 · subst h5; rfl
 simp only [r94, kids, bf h1, bf h2, bf h3, bf h4, bf h5, cond_false, if_neg h1, if_neg (show ¬ (op = 28 ∧ b ≠ -1) from fun h => h2 h.1), if_neg (show ¬ (op = 27 ∧ a = -1) from fun h => h3 h.1)]
 by_cases h6 : 6 ≤ op
 · by_cases h7 : op ≤ 20
   · simp [h6, h7]
   · by_cases h8 : op ≤ 25
     · simp only [dt h6, df h7, cond_true, cond_false, dt (show op ≥ 21 by omega), dt (show op ≤ 28 by omega), if_neg (show ¬ (6 ≤ op ∧ op ≤ 20) by omega), if_pos (show op = 4 ∨ op = 5 ∨ (21 ≤ op ∧ op ≤ 28) by omega)]
     · simp only [dt h6, df h7, cond_true, cond_false, dt (show op ≥ 21 by omega), df (show ¬ op ≤ 28 by omega), if_neg (show ¬ (6 ≤ op ∧ op ≤ 20) by omega), if_neg (show ¬ (op = 4 ∨ op = 5 ∨ (21 ≤ op ∧ op ≤ 28)) by omega)]
 · simp only [df (show ¬ op ≥ 6 by omega), cond_false, df (show ¬ op ≥ 21 by omega), if_neg (show ¬ (6 ≤ op ∧ op ≤ 20) by omega), if_neg (show ¬ (op = 4 ∨ op = 5 ∨ (21 ≤ op ∧ op ≤ 28)) by omega)])
theorem N1 (n : Nd) : c49 T.rf n = some (kids n) := d5C (by
 obtain ⟨op, a, b, c, k, nm⟩ := n
 by_cases h1 : op = 26
 · subst h1; rfl
 by_cases h2 : op = 28
 · subst h2
   by_cases hb : b = -1
   · subst hb; rfl
   · simp [r49, kids, hb, nbf hb]
 by_cases h3 : op = 27
 · subst h3
   by_cases ha : a = -1
   · subst ha; rfl
   · simp [r49, kids, ha, nbf ha, bf ha]
 by_cases h4 : op = 4
 · subst h4; rfl
 by_cases h5 : op = 5
 · subst h5; rfl
 simp only [r49, kids, bf h1, bf h2, bf h3, bf h4, bf h5, cond_false, if_neg h1, if_neg (show ¬ (op = 28 ∧ b ≠ -1) from fun h => h2 h.1), if_neg (show ¬ (op = 27 ∧ a = -1) from fun h => h3 h.1)]
 by_cases h6 : 6 ≤ op
 · by_cases h7 : op ≤ 20
   · simp [h6, h7, bf (show op ≠ 21 by omega), bf (show op ≠ 22 by omega), bf (show op ≠ 23 by omega), bf (show op ≠ 24 by omega), bf (show op ≠ 25 by omega)]
   · by_cases h8 : op ≤ 25
     · have : op = 21 ∨ op = 22 ∨ op = 23 ∨ op = 24 ∨ op = 25 := by omega
       rcases this with rfl | rfl | rfl | rfl | rfl <;> rfl
     · simp only [dt h6, df h7, bf (show op ≠ 21 by omega), bf (show op ≠ 22 by omega), bf (show op ≠ 23 by omega), bf (show op ≠ 24 by omega), bf (show op ≠ 25 by omega), cond_true, cond_false, if_neg (show ¬ (6 ≤ op ∧ op ≤ 20) by omega), if_neg (show ¬ (op = 4 ∨ op = 5 ∨ (21 ≤ op ∧ op ≤ 28)) by omega)]
 · simp only [df (show ¬ op ≥ 6 by omega), bf (show op ≠ 21 by omega), bf (show op ≠ 22 by omega), bf (show op ≠ 23 by omega), bf (show op ≠ 24 by omega), bf (show op ≠ 25 by omega), cond_false, if_neg (show ¬ (6 ≤ op ∧ op ≤ 20) by omega), if_neg (show ¬ (op = 4 ∨ op = 5 ∨ (21 ≤ op ∧ op ≤ 28)) by omega)])
theorem b4a (n : Nd) (l : List Int) : c95 T.rf n l = some (aim n l) := d6k (by
 match l with
 | [] => simp [r95, aim]
 | [a] => simp [r95, aim, nth, N7, show inb 0 1 = true from rfl]
 | [a, b] =>
   by_cases h : n.1 = 28
   · simp [r95, aim, nth, h, show inb 0 2 = true from rfl, show inb 1 2 = true from rfl]
   · have e := bf h
     simp [r95, aim, nth, h, e, show inb 0 2 = true from rfl, show inb 1 2 = true from rfl]
 | a :: b :: c :: r =>
   have h0 : inb 0 (a :: b :: c :: r).length = true := D1 (by omega) (by simp; omega)
   have h1 : inb 1 (a :: b :: c :: r).length = true := D1 (by omega) (by simp; omega)
   have h2 : inb 2 (a :: b :: c :: r).length = true := D1 (by omega) (by simp; omega)
   have g0 : decide ((0 : Int) < ((a :: b :: c :: r).length : Nat)) = true := dt (by simp; omega)
   have g1 : decide ((1 : Int) < ((a :: b :: c :: r).length : Nat)) = true := dt (by simp; omega)
   have g2 : decide ((2 : Int) < ((a :: b :: c :: r).length : Nat)) = true := dt (by simp; omega)
   have g : ((((a :: b :: c :: r).length : Nat) : Int) == 2) = false := bf (by simp; omega)
   simp only [r95, aim, h0, h1, h2, g0, g1, g2, g, cond_true, cond_false, nth, bind_some]
   cases (n.1 == 28) <;> rfl)
theorem b5O (n : Nd) (l : List Int) : c52 T.rf n l = some (aim n l) := d5F (by
 match l with
 | [] => simp [r52, aim]
 | [a] => simp [r52, aim, nth, N7, show inb 0 1 = true from rfl]
 | [a, b] =>
   by_cases h : n.1 = 28
   · simp [r52, aim, nth, h, show inb 0 2 = true from rfl, show inb 1 2 = true from rfl]
   · have e := bf h
     simp [r52, aim, nth, h, e, show inb 0 2 = true from rfl, show inb 1 2 = true from rfl]
 | a :: b :: c :: r =>
   have h0 : inb 0 (a :: b :: c :: r).length = true := D1 (by omega) (by simp; omega)
   have h1 : inb 1 (a :: b :: c :: r).length = true := D1 (by omega) (by simp; omega)
   have h2 : inb 2 (a :: b :: c :: r).length = true := D1 (by omega) (by simp; omega)
   have g0 : decide ((((a :: b :: c :: r).length : Nat) : Int) > 0) = true := dt (by simp; omega)
   have g1 : decide ((((a :: b :: c :: r).length : Nat) : Int) > 1) = true := dt (by simp; omega)
   have g2 : decide ((((a :: b :: c :: r).length : Nat) : Int) > 2) = true := dt (by simp; omega)
   have g : ((((a :: b :: c :: r).length : Nat) : Int) == 2) = false := bf (by simp; omega)
   simp only [r52, aim, h0, h1, h2, g0, g1, g2, g, cond_true, cond_false, nth, bind_some]
   cases (n.1 == 28) <;> rfl)
theorem a8K (n : Nd) : c93 T.rf n = some (a0u n) := d6i (by
 have hk6 : ∀ m : Nd, ∀ k : Int, k77 T.rb n m k = some (n, m, decide (1 ≤ n.1 ∧ n.1 ≤ 28 ∧ n = m ∧ 0 ≤ n.2.2.2.2.1 ∧ n.2.2.2.2.1 ≤ k ∧ (n.2.2.2.2.2 ≠ [] ↔ (n.1 = 3 ∨ n.1 = 27)))) := fun m k => d5m (by
  obtain ⟨p1, p2, p3, p4, p5, p6⟩ := n
  obtain ⟨q1, q2, q3, q4, q5, q6⟩ := m
  have hX : ∀ X : Prop, ∀ _ : Decidable X, ¬ X → some ((p1, p2, p3, p4, p5, p6), (q1, q2, q3, q4, q5, q6), false) = some ((p1, p2, p3, p4, p5, p6), (q1, q2, q3, q4, q5, q6), decide X) := fun X _ h => by rw [df h]
  have e : ∀ c : Bool, ((!(p6 == ([] : List UInt8))) == c) = decide (p6 ≠ [] ↔ c = true) := fun c => by cases p6 <;> cases c <;> simp
  simp only [b77, cond_eq_ite, decide_eq_true_eq, beq_iff_eq, and_eq_true, e]
  repeat' split
  all_goals first
   | (refine hX _ _ ?_; simp only [Prod.mk.injEq]; omega)
   | (refine hX _ _ ?_; simp only [Prod.mk.injEq]; rintro ⟨_, _, hh, _⟩; contradiction)
   | (simp only [Option.some.injEq, Prod.mk.injEq, true_and, decide_eq_decide]; constructor
      · intro h; exact ⟨by omega, by omega, by assumption, by omega, by omega, by rw [h]; first | omega | simp [*]⟩
      · rintro ⟨_, _, _, _, _, h⟩; rw [h]; first | omega | simp [*]))
 have hk5 : ∀ k : Int, k76 T.rb n k = some (n, decide (1 ≤ n.1 ∧ n.1 ≤ 28 ∧ n = aim (n.1, -1, -1, -1, n.2.2.2.2) (kids n) ∧ 0 ≤ n.2.2.2.2.1 ∧ n.2.2.2.2.1 ≤ k ∧ (n.2.2.2.2.2 ≠ [] ↔ (n.1 = 3 ∨ n.1 = 27)))) := fun k => d5l (by
  simp only [b76, a5L, b4a, hk6, bind_some])
 simp only [r93, hk5, bind_some, a0u, V0]
 by_cases h1 : n.1 = 1
 · simp [h1]
 by_cases h2 : n.1 = 2
 · simp [h2]
 by_cases h3 : n.1 = 25
 · simp [h3]
 simp only [bf h1, bf h2, bf h3, cond_false, if_neg h1, if_neg h2, if_neg h3])
theorem c0t (n : Nd) (by_ : Int) : c51 T.rf n by_ = some (mv by_ n) := d5E (by
 obtain ⟨op, a, b, c, n, nm⟩ := n
 simp only [r51, mv, shift]
 by_cases ha : 0 ≤ a <;> by_cases hb : 0 ≤ b <;> by_cases hc : 0 ≤ c <;> simp only [ge_iff_le, ha, hb, hc, decide_true, decide_false, cond_true, cond_false, if_true, if_false])
theorem a1k (by_ : Int) : ∀ (suf pre out : List Nd), out.length + suf.length ≤ 274877906944 → pre.length + suf.length ≤ 274877906944 →
  k22 T.rb out (pre ++ suf) by_ (pre.length : Nat) = some (out ++ suf.map (mv by_))
 | [], pre, out, h, h2 => d0E (by
   simp only [b22, l8, o6, List.append_nil, cond_false, List.map_nil, List.append_nil])
 | x :: suf, pre, out, h, h2 => d0E (by
   simp only [length_cons] at h h2
   have ih := a1k by_ suf (pre ++ [x]) (out ++ [mv by_ x]) (by simp; omega) (by simp; omega)
   simp only [List.append_assoc, List.singleton_append] at ih
   simp only [b22, j6, e8, e9, cond_true, bind_some, c0t, a6 (show out.length + 1 ≤ 274877906944 by omega), Bool.and_true, j7 pre x (by omega)]
   rw [List.map_cons]
   exact ih)
theorem a9W {out e : List Nd} (h : out.length + e.length ≤ 274877906944) : c50 T.rf out e = some (out ++ e.map (mv out.length)) := d5D (by
 have := a1k out.length e [] out h (by simp; omega)
 simp only [List.nil_append, length_nil] at this
 simp only [r50]
 rw [show (0 : Int) = ((0 : Nat) : Int) from rfl, this]; rfl)
theorem a8n : ∀ (s t p q : List Nd), p.length = q.length → s.length = t.length → p.length + s.length < 4611686018427387904 →
  c0g T.rb (p ++ s) (q ++ t) (p.length : Nat) = some (if s = t then .inr () else .inl false)
 | [], t, p, q, h1, h2, h3 => c4t (by
   have : t = [] := List.eq_nil_of_length_eq_zero (by simpa using h2.symm)
   subst this
   simp only [b6g, l8, o6, List.append_nil, cond_false, if_true])
 | x :: s, [], p, q, h1, h2, h3 => by simp at h2
 | x :: s, y :: t, p, q, h1, h2, h3 => c4t (by
   simp only [length_cons] at h2 h3
   have ih := a8n s t (p ++ [x]) (q ++ [y]) (by simp [h1]) (by omega) (by simp; omega)
   simp only [List.append_assoc, List.singleton_append] at ih
   have e1 : inb ((p.length : Nat) : Int) (q ++ y :: t).length = true := by rw [h1]; exact e8 q y t
   have e2 : nth (q ++ y :: t) ((p.length : Nat) : Int).toNat = some y := by rw [h1]; exact e9 q y t
   simp only [b6g, j6, e8, e9, e1, e2, cond_true, bind_some, j7 p x (by omega), ih]
   obtain ⟨x1, x2, x3, x4, x5, x6⟩ := x
   obtain ⟨y1, y2, y3, y4, y5, y6⟩ := y
   cases hc : (x1 == y1 && (x2 == y2 && (x3 == y3 && (x4 == y4 && (x5 == y5 && x6 == y6)))))
   · have : ¬ ((x1, x2, x3, x4, x5, x6) :: s = (y1, y2, y3, y4, y5, y6) :: t) := by
      intro h
      injection h with h h'
      simp only [Prod.mk.injEq] at h
      obtain ⟨rfl, rfl, rfl, rfl, rfl, rfl⟩ := h
      simp at hc
     rw [if_neg this]; rfl
   · simp only [and_eq_true, beq_iff_eq] at hc
     obtain ⟨rfl, rfl, rfl, rfl, rfl, rfl⟩ := hc
     by_cases hst : s = t
     · rw [if_pos hst, if_pos (by rw [hst])]; rfl
     · rw [if_neg hst, if_neg (by intro h; injection h with _ h; exact hst h)]; rfl)
theorem a5H {a b : List Nd} (ha : a.length < 4611686018427387904) (hb : b.length < 4611686018427387904) : b4F T.rf a b = some (decide (a = b)) := d1H (by
 simp only [c1m]
 by_cases h : a.length = b.length
 · have := a8n a b [] [] rfl h (by simpa using ha)
   simp only [List.nil_append, length_nil] at this
   rw [nbt (by rw [h]), cond_false, show (0 : Int) = ((0 : Nat) : Int) from rfl, this]
   by_cases e : a = b
   · rw [if_pos e, dt e]; rfl
   · rw [if_neg e, df e]; rfl
 · rw [nbf (by omega), cond_true, df (fun e => h (by rw [e]))])
theorem b3C (op n : Int) (nm : List UInt8) : c48 T.rf op n nm = some (op, -1, -1, -1, n, nm) := d5B rfl
def a0Z (op : Int) : List (List Nd) → List Nd → List Int → Int → Option (List Nd × List Int × Int)
 | [], o, ks, l => some (o, ks, l)
 | p :: r, o, ks, l => if p = [] then none else
   let o1 := o ++ p.map (mv o.length)
   if op = 27 then a0Z op r (o1 ++ [(28, (o1.length : Int) - 1, l, -1, 0, [])]) (ks ++ [(o1.length : Int) - 1]) o1.length
   else a0Z op r o1 (ks ++ [(o1.length : Int) - 1]) l
def total : List (List Nd) → Nat
 | [] => 0
 | p :: r => p.length + 1 + total r
def b7k (op : Int) (ks : List Int) (l : Int) : List Int := if op = 27 then (if l = -1 then [] else [l]) else ks
theorem a9H {p : List Nd} (h : p ≠ []) : (((p.length : Nat) : Int) == 0) = false := bf (by
 have := List.length_pos_iff.2 h; omega)
theorem a0i (op : Int) : ∀ (suf pre : List (List Nd)) (o : List Nd) (ks : List Int) (l : Int), o.length + total suf ≤ 274877906944 → pre.length + suf.length ≤ 274877906944 → ks.length + suf.length ≤ 274877906944 →
  k23 T.rb o ks op (pre ++ suf) l (pre.length : Nat) = some (match a0Z op suf o ks l with
   | none => .inl []
   | some (o', ks', l') => .inr (o', ks', l'))
 | [], pre, o, ks, l, h, h2, h3 => d0G (by
   simp only [b23, l8, o6, List.append_nil, cond_false, a0Z])
 | p :: suf, pre, o, ks, l, h, h2, h3 => d0G (by
   simp only [total, length_cons] at h h2 h3
   simp only [b23, j6, e8, e9, cond_true, bind_some, a0Z]
   by_cases hp : p = []
   · subst hp; rfl
   have hp' := List.length_pos_iff.2 hp
   rw [a9H hp, cond_false, if_neg hp, a9W (by omega), bind_some]
   have hol : (o ++ p.map (mv o.length)).length = o.length + p.length := by simp
   have hw : IntKind.i64.wrap (((o ++ p.map (mv o.length)).length : Int) - 1) = ((o ++ p.map (mv o.length)).length : Int) - 1 := wr (by omega)
   rw [a6 (show ks.length + 1 ≤ 274877906944 by omega), hw]
   simp only [Bool.and_true, cond_true]
   by_cases h27 : op = 27
   · subst h27
     have ih := a0i 27 suf (pre ++ [p]) ((o ++ p.map (mv o.length)) ++ [(28, ((o ++ p.map (mv o.length)).length : Int) - 1, l, -1, 0, [])]) (ks ++ [((o ++ p.map (mv o.length)).length : Int) - 1]) (o ++ p.map (mv o.length)).length
      (by simp only [length_append, List.length_map, List.length_singleton]; omega) (by simp only [length_append, List.length_singleton]; omega) (by simp only [length_append, List.length_singleton]; omega)
     simp only [List.append_assoc, List.singleton_append] at ih
     simp only [if_true, Int.reduceBEq, cond_true, b3C, bind_some, a6 (show (o ++ p.map (mv o.length)).length + 1 ≤ 274877906944 by omega), Bool.and_true, j7 pre p (by omega)]
     simpa only [List.append_assoc] using ih
   · have ih := a0i op suf (pre ++ [p]) (o ++ p.map (mv o.length)) (ks ++ [((o ++ p.map (mv o.length)).length : Int) - 1]) l
      (by omega) (by simp only [length_append, List.length_singleton]; omega) (by simp only [length_append, List.length_singleton]; omega)
     simp only [List.append_assoc, List.singleton_append] at ih
     simp only [if_neg h27, bf h27, cond_false, j7 pre p (by omega)]
     simpa only [List.append_assoc] using ih)
def join (op n : Int) (nm : List UInt8) (parts : List (List Nd)) : List Nd :=
 if op = 28 then [] else if op ≠ 27 ∧ (kids (op, -1, -1, -1, n, nm)).length ≠ parts.length then [] else
 match a0Z op parts [] [] (-1) with
 | none => []
 | some (o, ks, l) => o ++ [aim (op, -1, -1, -1, n, nm) (b7k op ks l)]
theorem a1K (op : Int) : ∀ (ps : List (List Nd)) (o : List Nd) (ks : List Int) (l : Int) (o' : List Nd) (ks' : List Int) (l' : Int), a0Z op ps o ks l = some (o', ks', l') → o'.length ≤ o.length + total ps
 | [], o, ks, l, o', ks', l', h => by simp only [a0Z] at h; cases h; simp [total]
 | p :: r, o, ks, l, o', ks', l', h => by
   simp only [a0Z] at h
   split at h
   · cases h
   split at h
   · have := a1K op r _ _ _ _ _ _ h
     simp only [length_append, List.length_map, List.length_singleton, total] at this ⊢; omega
   · have := a1K op r _ _ _ _ _ _ h
     simp only [length_append, List.length_map, total] at this ⊢; omega
theorem b2G {op n : Int} {nm : List UInt8} {ps : List (List Nd)} (h : total ps < 274877906944) (h2 : ps.length < 274877906944) : c47 T.rf op n nm ps = some (join op n nm ps) := d5A (by
 have hl := a0i op ps [] [] [] (-1) (by simpa using by omega) (by simpa using by omega) (by simpa using by omega)
 simp only [List.nil_append, length_nil] at hl
 simp only [r47, join, b3C, N1, bind_some]
 by_cases h28 : op = 28
 · rw [bt h28, cond_true, if_pos h28]
 rw [bf h28, cond_false, if_neg h28, show (0 : Int) = ((0 : Nat) : Int) from rfl, hl]
 by_cases h27 : op = 27
 · subst h27
   rw [nbt rfl, cond_false, if_neg (by intro hh; exact hh.1 rfl)]
   cases hj : a0Z 27 ps [] [] (-1) with
   | none => rfl
   | some x =>
     obtain ⟨o, ks, l⟩ := x
     have := a1K 27 ps _ _ _ _ _ _ hj
     simp only [length_nil, Nat.zero_add] at this
     simp only [bind_some, Int.reduceBEq, a6 (show o.length + 1 ≤ 274877906944 by omega), Bool.and_true, cond_true, b7k, if_true]
     by_cases hl1 : l = -1
     · subst hl1; rfl
     · rw [if_neg hl1]; rfl
 · rw [nbf h27, cond_true]
   by_cases hn : (kids (op, -1, -1, -1, n, nm)).length = ps.length
   · rw [nbt (by rw [hn]), cond_false, if_neg (by intro hh; exact hh.2 hn)]
     cases hj : a0Z op ps [] [] (-1) with
     | none => rfl
     | some x =>
       obtain ⟨o, ks, l⟩ := x
       have := a1K op ps _ _ _ _ _ _ hj
       simp only [length_nil, Nat.zero_add] at this
       simp only [bind_some, bf h27, cond_false, b5O, a6 (show o.length + 1 ≤ 274877906944 by omega), Bool.and_true, cond_true, b7k, if_neg h27]
   · rw [nbf (by omega), cond_true, if_pos ⟨h27, hn⟩])
def n6 (acc : List Int) : List Int → Int → Int
 | [], m => m
 | k :: ks, m => n6 acc ks (if 0 ≤ k ∧ k < acc.length then (if (acc.getD k.toNat 0) > m then acc.getD k.toNat 0 else m) else m)
def L4 : List Nd → List Int → List Int
 | [], acc => acc
 | n :: r, acc => L4 r (acc ++ [n6 acc (kids n) 0 + 1])
def depth (e : List Nd) : Int := (L4 e []).getLastD 0
theorem a0Q : ∀ (e : List Nd) (acc : List Int), (L4 e acc).length = acc.length + e.length
 | [], acc => rfl
 | n :: r, acc => by rw [L4, a0Q r]; simp; omega
theorem R2 (acc : List Int) (b : Int) (h : ∀ x ∈ acc, 0 ≤ x ∧ x ≤ b) : ∀ (ks : List Int) (m : Int), 0 ≤ m → m ≤ b → 0 ≤ n6 acc ks m ∧ n6 acc ks m ≤ b
 | [], m, h0, h1 => ⟨h0, h1⟩
 | k :: ks, m, h0, h1 => by
   rw [n6]
   split
   · rename_i hk
     split
     · have hlt : k.toNat < acc.length := by omega
       have hm : acc.getD k.toNat 0 ∈ acc := by
        rw [List.getD_eq_getElem?_getD, List.getElem?_eq_getElem hlt]; exact List.getElem_mem hlt
       exact R2 acc b h ks _ (h _ hm).1 (h _ hm).2
     · exact R2 acc b h ks m h0 h1
   · exact R2 acc b h ks m h0 h1
def row (acc : List Int) (m : Nat) : List Int := acc ++ List.replicate m 0
theorem a3e (acc : List Int) (m : Nat) (hacc : acc.length + m ≤ 1000000) : ∀ (suf pre : List Int) (x : Int), pre.length + suf.length ≤ 1000 →
  k87 T.rb (acc ++ x :: List.replicate m 0) (pre ++ suf) (acc.length : Nat) ((pre ++ suf).length : Nat) (pre.length : Nat) = some (acc ++ n6 acc suf x :: List.replicate m 0, pre ++ suf)
 | [], pre, x, h => d0K (by
   simp only [b87, l8, o6, List.append_nil, cond_false, n6])
 | k :: suf, pre, x, h => d0K (by
   simp only [length_cons] at h
   have ih := fun y => a3e acc m hacc suf (pre ++ [k]) y (by simp; omega)
   simp only [List.append_assoc, List.singleton_append] at ih
   simp only [b87, j6, e8, e9, cond_true, bind_some, n6, j7 pre k (by omega)]
   by_cases h1 : 0 ≤ k
   · rw [dt h1, cond_true]
     by_cases h2 : k < acc.length
     · have hlen : (acc ++ x :: List.replicate m 0).length = acc.length + (m + 1) := by simp
       have hk : nth (acc ++ x :: List.replicate m 0) k.toNat = some (acc.getD k.toNat 0) := by
        have hlt : k.toNat < acc.length := by omega
        rw [nth_getElem?, List.getElem?_append_left hlt, List.getD_eq_getElem?_getD, List.getElem?_eq_getElem hlt]; rfl
       have hb : Nat.blt ((acc.length : Nat) : Int).toNat (acc ++ x :: List.replicate m 0).length = true := a4L (by rw [hlen]; simp)
       rw [dt h2, cond_true, if_pos ⟨h1, h2⟩]
       rw [show inb k (acc ++ x :: List.replicate m 0).length = true from D1 h1 (by rw [hlen]; omega)]
       simp only [cond_true, hk, bind_some, e8, e9, hb]
       have hset : ∀ y, m5 (acc ++ x :: List.replicate m 0) ((acc.length : Nat) : Int).toNat y = acc ++ y :: List.replicate m 0 := fun y => by
        rw [H2, Int.toNat_natCast, List.set_append_right _ _ (Nat.le_refl _), Nat.sub_self, List.set_cons_zero]
       rw [hset]
       exact ih _
     · rw [df h2, cond_false, if_neg (by omega)]
       exact ih x
   · rw [df h1, cond_false, if_neg (by omega)]
     exact ih x)
theorem a3d : ∀ (suf pre : List Nd) (acc : List Int), acc.length = pre.length → pre.length + suf.length ≤ 1000000 → (∀ x ∈ acc, 0 ≤ x ∧ x ≤ acc.length) →
  k86 T.rb (row acc suf.length) (pre ++ suf) ((pre ++ suf).length : Nat) (pre.length : Nat) = some (L4 suf acc)
 | [], pre, acc, h, h2, h3 => d0J (by
   simp [b86, o6, L4, row])
 | n :: suf, pre, acc, h, h2, h3 => d0J (by
   simp only [length_cons] at h2
   have hd := R2 acc acc.length h3 (kids n) 0 (by omega) (by omega)
   have ih := a3d suf (pre ++ [n]) (acc ++ [n6 acc (kids n) 0 + 1]) (by simp [h]) (by simp; omega) (fun x hx => by
    rcases List.mem_append.1 hx with hx | hx
    · have := h3 x hx; simp; omega
    · simp only [List.mem_singleton] at hx; subst hx; simp; omega)
   simp only [List.append_assoc, List.singleton_append] at ih
   have hrow : row acc (n :: suf).length = acc ++ (0 : Int) :: List.replicate suf.length 0 := by simp [row, List.replicate_succ]
   have hl := a3e acc suf.length (by omega) (kids n) [] 0 (by have := O6 n; simp; omega)
   simp only [List.nil_append, length_nil] at hl
   rw [show ((0 : Nat) : Int) = 0 from rfl] at hl
   have hb : Nat.blt ((acc.length : Nat) : Int).toNat (acc ++ n6 acc (kids n) 0 :: List.replicate suf.length 0).length = true := a4L (by simp)
   have hset : ∀ y, m5 (acc ++ n6 acc (kids n) 0 :: List.replicate suf.length 0) ((acc.length : Nat) : Int).toNat y = acc ++ y :: List.replicate suf.length 0 := fun y => by
    rw [H2, Int.toNat_natCast, List.set_append_right _ _ (Nat.le_refl _), Nat.sub_self, List.set_cons_zero]
   simp only [b86, j6, e8, e9, cond_true, bind_some, a5L, hrow]
   rw [← h, hl]
   simp only [bind_some, e8, e9, cond_true, hb, hset]
   rw [wr (by omega)]
   rw [h, j7 pre n (by omega)]
   have e2 : acc ++ (n6 acc (kids n) 0 + 1) :: List.replicate suf.length 0 = row (acc ++ [n6 acc (kids n) 0 + 1]) suf.length := by simp [row]
   rw [e2, L4]
   exact ih)
theorem b5F {e : List Nd} (h : e.length ≤ 1000000) : c98 T.rf e = some (depth e) := d6n (by
 simp only [r98]
 by_cases he : e = []
 · subst he; rfl
 rw [a9H he, cond_false]
 have hd : c99 T.rf e = some (L4 e []) := d6o (by
  have hl := a3d e [] [] rfl (by simpa using h) (fun x hx => by cases hx)
  simp only [List.nil_append, length_nil, row] at hl
  simp only [r99, S0, dt (show e.length ≤ j4 by unfold j4; omega), dt (Nat.le_refl e.length), cond_true]
  rw [show (0 : Int) = ((0 : Nat) : Int) from rfl]
  rw [show ((0 : Nat) : Int) = (0 : Int) from rfl] at hl
  rw [show ((0 : Nat) : Int) = (0 : Int) from rfl, hl]; rfl)
 have hlen : (L4 e []).length = e.length := by rw [a0Q]; simp
 have hpos := List.length_pos_iff.2 he
 rw [hd, bind_some, a0a he (by omega), N7, dt (by omega), cond_true, Int.toNat_natCast, b0Z (by omega), bind_some]
 simp only [depth, Option.some.injEq]
 rw [List.getLastD_eq_getLast?, List.getLast?_eq_getElem?, List.getElem?_eq_getElem (by omega)]
 simp [hlen])
theorem a1m (acc : List Int) (m : Nat) (hacc : acc.length + m ≤ 1000000) (hb0 : ∀ x ∈ acc, 0 ≤ x ∧ x ≤ acc.length) : ∀ (suf pre : List Int) (x : Int), 0 ≤ x → x ≤ acc.length → pre.length + suf.length ≤ 1000 →
  k44 T.rb (acc ++ (x + 1) :: List.replicate m 0) (pre ++ suf) (acc.length : Nat) (pre.length : Nat) = some (acc ++ (n6 acc suf x + 1) :: List.replicate m 0, pre ++ suf)
 | [], pre, x, hx0, hx1, h => d0I (by
   simp only [b44, l8, o6, List.append_nil, cond_false, n6])
 | k :: suf, pre, x, hx0, hx1, h => d0I (by
   simp only [length_cons] at h
   have ih := fun y h0 h1 => a1m acc m hacc hb0 suf (pre ++ [k]) y h0 h1 (by simp; omega)
   simp only [List.append_assoc, List.singleton_append] at ih
   simp only [b44, j6, e8, e9, cond_true, bind_some, n6, j7 pre k (by omega)]
   by_cases h1 : 0 ≤ k
   · rw [dt h1, cond_true]
     by_cases h2 : k < acc.length
     · have hlen : (acc ++ (x + 1) :: List.replicate m 0).length = acc.length + (m + 1) := by simp
       have hlt : k.toNat < acc.length := by omega
       have hk : nth (acc ++ (x + 1) :: List.replicate m 0) k.toNat = some (acc.getD k.toNat 0) := by
        rw [nth_getElem?, List.getElem?_append_left hlt, List.getD_eq_getElem?_getD, List.getElem?_eq_getElem hlt]; rfl
       have hm : acc.getD k.toNat 0 ∈ acc := by
        rw [List.getD_eq_getElem?_getD, List.getElem?_eq_getElem hlt]; exact List.getElem_mem hlt
       have hmb := hb0 _ hm
       have hb : Nat.blt ((acc.length : Nat) : Int).toNat (acc ++ (x + 1) :: List.replicate m 0).length = true := a4L (by rw [hlen]; simp)
       rw [dt h2, cond_true, if_pos ⟨h1, h2⟩]
       rw [show inb k (acc ++ (x + 1) :: List.replicate m 0).length = true from D1 h1 (by rw [hlen]; omega)]
       simp only [cond_true, hk, bind_some, e8, e9, hb]
       have hset : ∀ y, m5 (acc ++ (x + 1) :: List.replicate m 0) ((acc.length : Nat) : Int).toNat y = acc ++ y :: List.replicate m 0 := fun y => by
        rw [H2, Int.toNat_natCast, List.set_append_right _ _ (Nat.le_refl _), Nat.sub_self, List.set_cons_zero]
       rw [hset, wr (by omega)]
       have e : (if acc.getD k.toNat 0 + 1 > x + 1 then acc.getD k.toNat 0 + 1 else x + 1) = (if acc.getD k.toNat 0 > x then acc.getD k.toNat 0 else x) + 1 := by
        split <;> split <;> omega
       rw [e]
       exact ih _ (by split <;> omega) (by split <;> omega)
     · rw [df h2, cond_false, if_neg (by omega)]
       exact ih x hx0 hx1
   · rw [df h1, cond_false, if_neg (by omega)]
     exact ih x hx0 hx1)
theorem a1l : ∀ (suf pre : List Nd) (acc : List Int), acc.length = pre.length → pre.length + suf.length ≤ 1000000 → (∀ x ∈ acc, 0 ≤ x ∧ x ≤ acc.length) →
  k43 T.rb (row acc suf.length) (pre ++ suf) (pre.length : Nat) = some (L4 suf acc)
 | [], pre, acc, h, h2, h3 => d0H (by
   simp [b43, o6, L4, row])
 | n :: suf, pre, acc, h, h2, h3 => d0H (by
   simp only [length_cons] at h2
   have hd := R2 acc acc.length h3 (kids n) 0 (by omega) (by omega)
   have ih := a1l suf (pre ++ [n]) (acc ++ [n6 acc (kids n) 0 + 1]) (by simp [h]) (by simp; omega) (fun x hx => by
    rcases List.mem_append.1 hx with hx | hx
    · have := h3 x hx; simp; omega
    · simp only [List.mem_singleton] at hx; subst hx; simp; omega)
   simp only [List.append_assoc, List.singleton_append] at ih
   have hrow : row acc (n :: suf).length = acc ++ (0 : Int) :: List.replicate suf.length 0 := by simp [row, List.replicate_succ]
   have hl := a1m acc suf.length (by omega) h3 (kids n) [] 0 (by omega) (by omega) (by have := O6 n; simp; omega)
   simp only [List.nil_append, length_nil] at hl
   rw [show ((0 : Nat) : Int) = 0 from rfl, show (0 : Int) + 1 = 1 from rfl] at hl
   have hb : Nat.blt ((acc.length : Nat) : Int).toNat (acc ++ (0 : Int) :: List.replicate suf.length 0).length = true := a4L (by simp)
   have hset : m5 (acc ++ (0 : Int) :: List.replicate suf.length 0) ((acc.length : Nat) : Int).toNat 1 = acc ++ (1 : Int) :: List.replicate suf.length 0 := by
    rw [H2, Int.toNat_natCast, List.set_append_right _ _ (Nat.le_refl _), Nat.sub_self, List.set_cons_zero]
   have hin : inb ((pre.length : Nat) : Int) (acc ++ (0 : Int) :: List.replicate suf.length 0).length = true := by rw [← h]; exact e8 _ _ _
   simp only [b43, j6, e8, e9, cond_true, bind_some, N1, hrow, hin]
   rw [← h, hb, cond_true, hset, hl]
   simp only [bind_some]
   rw [h, j7 pre n (by omega)]
   have e2 : acc ++ (n6 acc (kids n) 0 + 1) :: List.replicate suf.length 0 = row (acc ++ [n6 acc (kids n) 0 + 1]) suf.length := by simp [row]
   rw [e2, L4]
   exact ih)
theorem b1o {e : List Nd} (h : e.length ≤ 1000000) : c62 T.rf e = some (depth e) := d5K (by
 have hl := a1l e [] [] rfl (by simpa using h) (fun x hx => by cases hx)
 simp only [List.nil_append, length_nil, row] at hl
 rw [show ((0 : Nat) : Int) = (0 : Int) from rfl] at hl
 simp only [r62, S0, dt (show e.length ≤ j4 by unfold j4; omega), dt (Nat.le_refl e.length), cond_true, hl, bind_some]
 by_cases he : e = []
 · subst he; rfl
 rw [a9H he, cond_false]
 have hlen : (L4 e []).length = e.length := by rw [a0Q]; simp
 have hpos := List.length_pos_iff.2 he
 rw [a0a he (by omega), N7, dt (by omega), cond_true, Int.toNat_natCast, b0Z (by omega), bind_some]
 simp only [depth, Option.some.injEq]
 rw [List.getLastD_eq_getLast?, List.getLast?_eq_getElem?, List.getElem?_eq_getElem (by omega)]
 simp [hlen])
def a5z (e : List Nd) (k : Nat) : Int := (e.getD k (0, 0, 0, 0, 0, [])).1
def a7P (e : List Nd) (n : Nd) (at_ : Nat) (k : Int) : Bool := decide (a5z e k.toNat = 28) == (decide (n.1 = 27) || (decide (n.1 = 28) && (decide (n.2.2.1 ≠ -1) && decide (at_ = 0))))
def a2p (e : List Nd) (n : Nd) (i : Nat) : List Int → Nat → List Nat → Option (List Nat)
 | [], _, V => some V
 | k :: ks, a, V => if 0 ≤ k ∧ k < i ∧ k.toNat ∉ V ∧ a7P e n a k = true then a2p e n i ks (a + 1) (V ++ [k.toNat]) else none
def scan (e : List Nd) : List Nd → Nat → List Nat → Option (List Nat)
 | [], _, V => some V
 | n :: r, i, V => if a0u n = true then match a2p e n i (kids n) 0 V with
    | some V' => scan e r (i + 1) V'
    | none => none
   else none
def F9 (e : List Nd) : Bool := decide (e ≠ []) && (decide (e.length ≤ 5000) && (decide (a5z e (e.length - 1) ≠ 28) && (match scan e e 0 [] with
 | none => false
 | some V => (List.range (e.length - 1)).all (fun j => decide (j ∈ V)) && decide (depth e ≤ 40))))
def B8 (N : Nat) (V : List Nat) : List Bool := (List.range N).map fun j => decide (j ∈ V)
theorem Q8 (N : Nat) (V : List Nat) : (B8 N V).length = N := by simp [B8]
theorem a9l {N : Nat} {V : List Nat} {k : Nat} (h : k < N) : nth (B8 N V) k = some (decide (k ∈ V)) := by
 rw [nth_getElem?, B8, List.getElem?_map, List.getElem?_range h]; rfl
theorem b5A {N : Nat} {V : List Nat} {k : Nat} (h : k < N) : m5 (B8 N V) k true = B8 N (V ++ [k]) := by
 rw [H2]
 apply List.ext_getElem?
 intro j
 rw [List.getElem?_set]
 by_cases hj : j < N
 · simp only [B8, List.getElem?_map, List.getElem?_range hj, List.length_map, List.length_range]
   by_cases e : k = j
   · subst e; simp [h]
   · simp [e, Ne.symm e]
 · have hne : k ≠ j := by omega
   rw [if_neg hne, List.getElem?_eq_none (by rw [Q8]; omega), List.getElem?_eq_none (by rw [Q8]; omega)]
theorem a3y {e : List Nd} {k : Nat} (h : k < e.length) : ∃ x, nth e k = some x ∧ x.1 = a5z e k := by
 refine ⟨e[k], b0Z h, ?_⟩
 rw [a5z, List.getD_eq_getElem?_getD, List.getElem?_eq_getElem h]; rfl
theorem a8k (e : List Nd) (n : Nd) (i : Nat) (hi : i < e.length) (hN : e.length ≤ 1000000) : ∀ (suf pre : List Int) (V : List Nat), pre.length + suf.length ≤ 1000 →
  match a2p e n i suf pre.length V with
  | some V' => k78 T.rb (B8 e.length V) n (pre ++ suf) e (i : Nat) ((pre ++ suf).length : Nat) (pre.length : Nat) = some (.inr (B8 e.length V', n, pre ++ suf))
  | none => ∃ u, k78 T.rb (B8 e.length V) n (pre ++ suf) e (i : Nat) ((pre ++ suf).length : Nat) (pre.length : Nat) = some (.inl (u, n, pre ++ suf, false))
 | [], pre, V, h => c0z (by
   simp only [b78, l8, o6, List.append_nil, cond_false])
 | k :: suf, pre, V, h => by
   simp only [length_cons] at h
   have ih := a8k e n i hi hN suf (pre ++ [k]) (V ++ [k.toNat]) (by simp; omega)
   have hpl : (pre ++ [k]).length = pre.length + 1 := by simp
   simp only [List.append_assoc, List.singleton_append] at ih
   rw [hpl] at ih
   have fall : ∀ {u}, b78 T.rf T.rb (B8 e.length V) n (pre ++ k :: suf) e (i : Nat) ((pre ++ k :: suf).length : Nat) (pre.length : Nat) = some (.inl (u, n, pre ++ k :: suf, false)) →
    ∃ u, k78 T.rb (B8 e.length V) n (pre ++ k :: suf) e (i : Nat) ((pre ++ k :: suf).length : Nat) (pre.length : Nat) = some (.inl (u, n, pre ++ k :: suf, false)) := fun h => ⟨_, c0z h⟩
   rw [a2p]
   by_cases h1 : 0 ≤ k
   case neg =>
    rw [if_neg (by omega)]
    refine fall (u := B8 e.length V) ?_
    simp only [b78, j6, e8, e9, cond_true, bind_some, dt (show k < 0 by omega)]
   by_cases h2 : k < i
   case neg =>
    rw [if_neg (by omega)]
    refine fall (u := B8 e.length V) ?_
    simp only [b78, j6, e8, e9, cond_true, bind_some, df (show ¬ k < 0 by omega), cond_false, dt (show k ≥ i by omega)]
   have hk : k.toNat < e.length := by omega
   have hin : inb k (B8 e.length V).length = true := D1 h1 (by rw [Q8]; omega)
   by_cases h3 : k.toNat ∈ V
   · rw [if_neg (by intro hh; exact hh.2.2.1 h3)]
     refine fall (u := B8 e.length V) ?_
     simp only [b78, j6, e8, e9, cond_true, bind_some, df (show ¬ k < 0 by omega), cond_false, df (show ¬ k ≥ i by omega), hin, a9l hk, dt h3]
   have hine : inb k e.length = true := D1 h1 (by omega)
   obtain ⟨x, hx, hxo⟩ := a3y hk
   have hbl : Nat.blt k.toNat (B8 e.length V).length = true := a4L (by rw [Q8]; exact hk)
   have hnext : IntKind.i64.wrap (((pre.length : Nat) : Int) + 1) = ((pre.length + 1 : Nat) : Int) := L1 (by omega)
   have hbody : b78 T.rf T.rb (B8 e.length V) n (pre ++ k :: suf) e (i : Nat) ((pre ++ k :: suf).length : Nat) (pre.length : Nat) =
     if a7P e n pre.length k = true then k78 T.rb (B8 e.length (V ++ [k.toNat])) n (pre ++ k :: suf) e (i : Nat) ((pre ++ k :: suf).length : Nat) ((pre.length + 1 : Nat) : Int)
     else some (.inl (B8 e.length (V ++ [k.toNat]), n, pre ++ k :: suf, false)) := by
    simp only [b78, j6, e8, e9, cond_true, bind_some, df (show ¬ k < 0 by omega), cond_false, df (show ¬ k ≥ i by omega), hin, a9l hk, df h3, hbl, hine, hx, b5A hk, hnext, a7P, ← hxo]
    have hp0 : (((pre.length : Nat) : Int) == 0) = decide (pre.length = 0) := by
     by_cases e : pre.length = 0
     · rw [dt e, bt (by omega)]
     · rw [df e, bf (by omega)]
    have hx28 : (x.1 == 28) = decide (x.1 = 28) := by
     by_cases e : x.1 = 28
     · rw [dt e, bt e]
     · rw [df e, bf e]
    rw [hp0, hx28]
    by_cases e27 : n.1 = 27
    · simp only [bt e27, cond_true, dt e27, Bool.true_or]
      cases decide (x.1 = 28) <;> simp
    · by_cases e28 : n.1 = 28
      · by_cases eb : n.2.2.1 = -1
        · simp only [bf e27, bt e28, cond_true, cond_false, nbt eb, dt e28, df e27, df (show ¬ (n.2.2.1 ≠ -1) from fun h => h eb), Bool.false_or, Bool.true_and, Bool.false_and]
          cases decide (x.1 = 28) <;> simp
        · simp only [bf e27, bt e28, cond_true, cond_false, nbf eb, dt e28, df e27, dt (show n.2.2.1 ≠ -1 from eb), Bool.false_or, Bool.true_and]
          cases decide (x.1 = 28) <;> cases decide (pre.length = 0) <;> simp
      · simp only [bf e27, bf e28, cond_false, df e28, df e27, Bool.false_or, Bool.false_and]
        cases decide (x.1 = 28) <;> simp
   by_cases h4 : a7P e n pre.length k = true
   · rw [if_pos ⟨h1, h2, h3, h4⟩]
     rw [if_pos h4] at hbody
     cases hs : a2p e n i suf (pre.length + 1) (V ++ [k.toNat]) with
     | none =>
       rw [hs] at ih
       obtain ⟨u, ih⟩ := ih
       exact ⟨u, c0z (hbody.trans ih)⟩
     | some V' =>
       rw [hs] at ih
       dsimp only at ih ⊢
       exact c0z (hbody.trans ih)
   · rw [if_neg (by intro hh; exact h4 hh.2.2.2)]
     rw [if_neg h4] at hbody
     exact fall hbody
theorem a8j (e : List Nd) (hN : e.length ≤ 1000000) : ∀ (suf pre : List Nd) (V : List Nat), e = pre ++ suf →
  match scan e suf pre.length V with
  | some V' => k75 T.rb (B8 e.length V) e e (e.length : Nat) (pre.length : Nat) = some (.inr (B8 e.length V'))
  | none => ∃ u, k75 T.rb (B8 e.length V) e e (e.length : Nat) (pre.length : Nat) = some (.inl (u, false))
 | [], pre, V, h => b7R (by
   subst h
   simp only [b75, l8, o6, List.append_nil, cond_false])
 | n :: suf, pre, V, h => by
   have ih := fun V' => a8j e hN suf (pre ++ [n]) V' (by rw [h]; simp)
   have hlt : pre.length < e.length := by rw [h]; simp
   have hl2 := a8k e n pre.length hlt hN (kids n) [] V (by have := O6 n; simp; omega)
   simp only [List.nil_append, length_nil] at hl2
   have a1 : decide (((pre.length : Nat) : Int) < ((e.length : Nat) : Int)) = true := dt (by omega)
   have a2 : inb ((pre.length : Nat) : Int) e.length = true := D1 (by omega) (by omega)
   have a3 : nth e ((pre.length : Nat) : Int).toNat = some n := by rw [h]; exact e9 pre n suf
   have a4 : IntKind.i64.wrap (((pre.length : Nat) : Int) + 1) = ((pre ++ [n]).length : Nat) := j7 pre n (by omega)
   rw [scan]
   cases hn : a0u n with
   | false =>
     rw [if_neg (by decide)]
     exact ⟨_, b7R (by
      simp only [b75, a1, a2, a3, cond_true, bind_some, a8K, hn, Bool.not_false]
      rfl)⟩
   | true =>
     rw [if_pos rfl]
     have hbody : b75 T.rf T.rb (B8 e.length V) e e (e.length : Nat) (pre.length : Nat) = (k78 T.rb (B8 e.length V) n (kids n) e (pre.length : Nat) ((kids n).length : Nat) ((0 : Nat) : Int)).bind fun z => match z with
       | .inl u => some (.inl (u.1, u.2.2.2))
       | .inr w => k75 T.rb w.1 e e (e.length : Nat) ((pre ++ [n]).length : Nat) := by
      simp only [b75, a1, a2, a3, cond_true, cond_false, bind_some, a8K, hn, Bool.not_true, a5L, a4]
      rfl
     cases hs : a2p e n pre.length (kids n) 0 V with
     | none =>
       rw [hs] at hl2
       obtain ⟨u, hl2⟩ := hl2
       exact ⟨u, b7R (by rw [hbody, hl2]; rfl)⟩
     | some V' =>
       rw [hs] at hl2
       have ih := ih V'
       rw [length_append, List.length_singleton] at ih
       dsimp only at hl2 ⊢
       cases hs2 : scan e suf (pre.length + 1) V' with
       | none =>
         rw [hs2] at ih
         obtain ⟨u, ih⟩ := ih
         exact ⟨u, b7R (by rw [hbody, hl2, bind_some, length_append, List.length_singleton]; exact ih)⟩
       | some V2 =>
         rw [hs2] at ih
         exact b7R (by rw [hbody, hl2, bind_some, length_append, List.length_singleton]; exact ih)
theorem a4H (b : Bool) : ∀ (suf pre : List Bool), pre.length + suf.length ≤ 1000000 →
  ∃ z, k79 T.rb (pre ++ suf) b ((pre ++ suf).length : Nat) (pre.length : Nat) = some z ∧ (match z with
   | .inl j => 0 ≤ j ∧ b ∈ suf
   | .inr _ => b ∉ suf)
 | [], pre, h => ⟨.inr (), c6f (by simp only [b79, l8, o6, List.append_nil, cond_false]), by simp⟩
 | x :: suf, pre, h => by
   simp only [length_cons] at h
   obtain ⟨z, ih, hz⟩ := a4H b suf (pre ++ [x]) (by simp; omega)
   simp only [List.append_assoc, List.singleton_append] at ih
   by_cases hx : b = x
   · refine ⟨.inl (pre.length : Nat), c6f ?_, by omega, by simp [hx]⟩
     simp only [b79, j6, e8, e9, cond_true, bind_some, beq_iff_eq.2 hx]
   · refine ⟨z, c6f ?_, ?_⟩
     · simp only [b79, j6, e8, e9, cond_true, cond_false, bind_some, beq_eq_false_iff_ne.2 hx, j7 pre x (by omega)]
       exact ih
     · cases z with
       | inl j => exact ⟨hz.1, List.mem_cons_of_mem _ hz.2⟩
       | inr j => simp only [List.mem_cons, not_or]; exact ⟨hx, hz⟩
theorem a9p {l : List Bool} (b : Bool) (h : l.length ≤ 1000000) : c96 T.rf l b = some (decide (b ∈ l)) := d6l (by
 obtain ⟨z, hz, hp⟩ := a4H b l [] (by simpa using h)
 simp only [List.nil_append, length_nil] at hz
 have hI : ∀ z, k79 T.rb l b (l.length : Nat) 0 = some z → c97 T.rf l b = some (match z with
   | .inl j => j
   | .inr _ => -1) := fun z hz => d6m (by
  simp only [r97, hz]
  cases z <;> rfl)
 simp only [r96, hI z hz, bind_some]
 cases z with
 | inl j => rw [dt (show (j : Int) ≥ 0 from hp.1), dt hp.2]
 | inr j => rw [df (show ¬ ((-1 : Int) ≥ 0) by decide), df hp])
theorem b5L {e : List Nd} (h : e.length ≤ 1000000) : c92 T.rf e = some (F9 e) := d6h (by
 simp only [r92, F9]
 by_cases he : e = []
 · subst he; rfl
 have hpos := List.length_pos_iff.2 he
 rw [a9H he, cond_false, dt he, Bool.true_and]
 by_cases hl : e.length ≤ 5000
 case neg => rw [dt (show ((e.length : Nat) : Int) > 5000 by omega), cond_true, df hl, Bool.false_and]
 rw [df (show ¬ ((e.length : Nat) : Int) > 5000 by omega), cond_false, dt hl, Bool.true_and]
 obtain ⟨x, hx, hxo⟩ := a3y (e := e) (k := e.length - 1) (by omega)
 rw [a0a he (by omega), N7, dt (show e.length - 1 < e.length by omega), cond_true, Int.toNat_natCast, hx, bind_some]
 by_cases h28 : x.1 = 28
 · rw [bt h28, cond_true, df (show ¬ (a5z e (e.length - 1) ≠ 28) from fun g => g (hxo ▸ h28)), Bool.false_and]
 rw [bf h28, cond_false, dt (show a5z e (e.length - 1) ≠ 28 from hxo ▸ h28), Bool.true_and, S0, dt (show e.length ≤ j4 by unfold j4; omega), cond_true, S0, dt (Nat.le_refl _), cond_true]
 have h0 := a8j e (by omega) e [] [] rfl
 have hu : B8 e.length [] = List.replicate e.length false := by
  apply List.ext_getElem?
  intro j
  simp only [B8, List.getElem?_map, List.getElem?_replicate]
  by_cases hj : j < e.length
  · rw [List.getElem?_range hj, if_pos hj]; simp
  · rw [List.getElem?_eq_none (by simp; omega), if_neg hj]; rfl
 rw [hu] at h0
 simp only [length_nil] at h0
 rw [show ((0 : Nat) : Int) = (0 : Int) from rfl] at h0
 cases hs : scan e e 0 [] with
 | none =>
   rw [hs] at h0
   obtain ⟨u, h0⟩ := h0
   rw [h0]; rfl
 | some V =>
   rw [hs] at h0
   rw [h0]
   simp only [bind_some, Q8, S0, dt (show e.length - 1 ≤ e.length by omega), cond_true, sub_zero, Nat.sub_zero]
   have hlen : ((B8 e.length V).take (e.length - 1)).length ≤ 1000000 := by simp [Q8]; omega
   rw [a9p false hlen, bind_some]
   have hall : decide (false ∈ (B8 e.length V).take (e.length - 1)) = !((List.range (e.length - 1)).all fun j => decide (j ∈ V)) := by
    have key : false ∈ (B8 e.length V).take (e.length - 1) ↔ ∃ j, j < e.length - 1 ∧ j ∉ V := by
     rw [List.mem_iff_getElem?]
     constructor
     · rintro ⟨j, hj⟩
       rw [List.getElem?_take] at hj
       split at hj
       · rename_i hlt
         rw [B8, List.getElem?_map, List.getElem?_range (by omega)] at hj
         exact ⟨j, hlt, by simpa using hj⟩
       · cases hj
     · rintro ⟨j, hlt, hj⟩
       refine ⟨j, ?_⟩
       rw [List.getElem?_take, if_pos hlt, B8, List.getElem?_map, List.getElem?_range (by omega)]
       simpa using hj
    cases hc : (List.range (e.length - 1)).all fun j => decide (j ∈ V)
    · refine dt (key.2 ?_)
      rw [List.all_eq_false] at hc
      obtain ⟨j, h1, h2⟩ := hc
      exact ⟨j, List.mem_range.1 h1, by simpa using h2⟩
    · refine df (fun hh => ?_)
      obtain ⟨j, h1, h2⟩ := key.1 hh
      rw [List.all_eq_true] at hc
      exact h2 (by simpa using hc j (List.mem_range.2 h1))
   rw [hall, Bool.not_not]
   cases (List.range (e.length - 1)).all fun j => decide (j ∈ V)
   · rfl
   · rw [cond_true, b5F (by omega), bind_some, Bool.true_and])
theorem eqm (x y : Int) : (x == y) = decide (x = y) := by
 by_cases e : x = y
 · rw [dt e, bt e]
 · rw [df e, bf e]
theorem a9u (n : Nd) : c5M T.rf n = some (decide (n = aim (n.1, -1, -1, -1, n.2.2.2.2) (kids n))) := d1D (by
 obtain ⟨op, a, b, c, k, nm⟩ := n
 simp only [c1i, N1, bind_some]
 by_cases h26 : op = 26
 · subst h26
   simp [kids, aim]
 by_cases h28 : op = 28
 · subst h28
   by_cases hb : b = -1
   · subst hb
     simp [kids, aim, eqm]
   · simp [kids, aim, hb, eqm]
 by_cases h27 : op = 27
 · subst h27
   by_cases ha : a = -1
   · subst ha
     by_cases hb : b = -1
     · subst hb; simp [kids, aim, eqm]
     · simp [kids, aim, eqm, hb]
   · by_cases hb : b = -1
     · subst hb; simp [kids, aim, eqm, ha]
     · simp [kids, aim, eqm, hb, ha]
 simp only [bf h27, bf h28, cond_false]
 by_cases h6 : 6 ≤ op ∧ op ≤ 20
 · have hk : kids (op, a, b, c, k, nm) = [a, b] := by
    simp only [kids]; rw [if_neg h26, if_neg (fun h => h28 h.1), if_neg (fun h => h27 h.1), if_pos h6]
   rw [hk]
   simp [aim, h28, eqm]
 by_cases h4 : op = 4 ∨ op = 5 ∨ (21 ≤ op ∧ op ≤ 28)
 · have hk : kids (op, a, b, c, k, nm) = [a] := by
    simp only [kids]; rw [if_neg h26, if_neg (fun h => h28 h.1), if_neg (fun h => h27 h.1), if_neg h6, if_pos h4]
   rw [hk]
   by_cases hb : b = -1
   · subst hb; simp [aim, eqm]
   · simp [aim, hb, eqm]
 · have hk : kids (op, a, b, c, k, nm) = [] := by
    simp only [kids]; rw [if_neg h26, if_neg (fun h => h28 h.1), if_neg (fun h => h27 h.1), if_neg h6, if_neg h4]
   rw [hk]
   by_cases ha : a = -1
   · by_cases hb : b = -1
     · subst hb; subst ha; simp [aim, eqm]
     · subst ha; simp [aim, hb, eqm]
   · simp [aim, ha, eqm])
theorem a1g (n : Nd) : c5N T.rf n = some (decide (0 ≤ n.2.2.2.2.1 ∧ n.2.2.2.2.1 ≤ V0 n.1 ∧ (n.2.2.2.2.2 ≠ [] ↔ (n.1 = 3 ∨ n.1 = 27)))) := d1E (by
 obtain ⟨op, a, b, c, k, nm⟩ := n
 have e : ∀ c : Bool, ((!(nm == ([] : List UInt8))) == c) = decide (nm ≠ [] ↔ c = true) := fun c => by cases nm <;> cases c <;> simp
 simp only [c1j, e, V0, eqm]
 have key : ∀ (Q : Prop) [Decidable Q] (P : Prop) [Decidable P] (M : Int), (P ↔ (0 ≤ k ∧ k ≤ M)) → (Q ↔ (nm ≠ [] ↔ (op = 3 ∨ op = 27))) → ∀ x : Option Bool, x = some (decide P) → (bif !decide Q then some false else x) = some (decide (0 ≤ k ∧ k ≤ M ∧ (nm ≠ [] ↔ (op = 3 ∨ op = 27)))) := by
  intro Q _ P _ M h1 h2 x hx
  by_cases hq : Q
  · rw [dt hq, Bool.not_true, cond_false, hx]
    by_cases hp : P
    · rw [dt hp, dt ⟨(h1.1 hp).1, (h1.1 hp).2, h2.1 hq⟩]
    · rw [df hp, df (fun hh => hp (h1.2 ⟨hh.1, hh.2.1⟩))]
  · rw [df hq, Bool.not_false, cond_true, df (fun hh => hq (h2.2 hh.2.2))]
 have two : ∀ M : Int, (bif decide (k ≥ 0) then some (decide (k ≤ M)) else some false) = some (decide (0 ≤ k ∧ k ≤ M)) := fun M => by
  by_cases h0 : 0 ≤ k
  · rw [dt (show k ≥ 0 from h0), cond_true]; simp [h0]
  · rw [df (show ¬ k ≥ 0 from h0), cond_false]; simp [h0]
 by_cases h3 : op = 3
 · subst h3
   exact key _ (k = 0) 0 (by omega) (by simp) _ rfl
 by_cases h27 : op = 27
 · subst h27
   exact key _ (k = 0) 0 (by omega) (by simp) _ rfl
 rw [df h3, cond_false, df h27]
 by_cases h1 : op = 1
 · subst h1
   exact key _ (0 ≤ k ∧ k ≤ 2147483647) 2147483647 Iff.rfl (by simp) _ (two _)
 by_cases h2 : op = 2
 · subst h2
   refine key _ (0 ≤ k ∧ k ≤ 1) 1 Iff.rfl (by simp) _ ?_
   by_cases h0 : k = 0
   · subst h0; rfl
   · rw [df (show ¬ (2 : Int) = 1 by decide), cond_false, dt rfl, cond_true, df h0, cond_false]
     by_cases h1 : k = 1
     · subst h1; rfl
     · rw [df h1, df (by omega)]
 by_cases h25 : op = 25
 · subst h25
   exact key _ (0 ≤ k ∧ k ≤ 1000) 1000 Iff.rfl (by simp) _ (two _)
 rw [df h1, df h2, df h25, if_neg h1, if_neg h2, if_neg h25]
 exact key _ (k = 0) 0 (by omega) (by simp [h3, h27]) _ rfl)
def O2 (e : List Nd) (n : Nd) : List Int → Nat → Bool
 | [], _ => true
 | k :: ks, a => a7P e n a k && O2 e n ks (a + 1)
theorem a8p (e : List Nd) (n : Nd) (h28 : n.1 = 28 → ((kids n).length = 2 ↔ n.2.2.1 ≠ -1)) : ∀ (suf pre : List Int), kids n = pre ++ suf → (∀ k ∈ suf, 0 ≤ k ∧ k < e.length) →
  (O2 e n suf pre.length = true ∧ a9F T.rb n (kids n) e (pre.length : Nat) = some (.inr (n, kids n))) ∨
  (O2 e n suf pre.length = false ∧ a9F T.rb n (kids n) e (pre.length : Nat) = some (.inl (n, kids n, false)))
 | [], pre, h, hk => .inl ⟨rfl, b3I (by
   rw [h]; simp only [b4s, l8, o6, List.append_nil, cond_false])⟩
 | k :: suf, pre, h, hk => by
   have hkk := hk k List.mem_cons_self
   have ih := a8p e n h28 suf (pre ++ [k]) (by rw [h]; simp) (fun q hq => hk q (List.mem_cons_of_mem _ hq))
   have hpl : (pre ++ [k]).length = pre.length + 1 := by simp
   have hk3 := O6 n
   rw [hpl] at ih
   have hk' : k.toNat < e.length := by omega
   obtain ⟨x, hx, hxo⟩ := a3y hk'
   have a1 : decide (((pre.length : Nat) : Int) < (((kids n).length : Nat) : Int)) = true := by rw [h]; exact j6 pre k suf
   have a2 : inb ((pre.length : Nat) : Int) (kids n).length = true := by rw [h]; exact e8 pre k suf
   have a3 : nth (kids n) ((pre.length : Nat) : Int).toNat = some k := by rw [h]; exact e9 pre k suf
   have a4 : IntKind.i64.wrap (((pre.length : Nat) : Int) + 1) = ((pre.length + 1 : Nat) : Int) := L1 (by rw [h] at hk3; simp at hk3; omega)
   have hine : inb k e.length = true := D1 hkk.1 hkk.2
   have hp0 : (((pre.length : Nat) : Int) == 0) = decide (pre.length = 0) := by
    by_cases e : pre.length = 0
    · rw [dt e, bt (by omega)]
    · rw [df e, bf (by omega)]
   have hbody : b4s T.rf T.rb n (kids n) e (pre.length : Nat) = if a7P e n pre.length k = true then a9F T.rb n (kids n) e ((pre.length + 1 : Nat) : Int) else some (.inl (n, kids n, false)) := by
    simp only [b4s, a1, a2, a3, a4, cond_true, bind_some, hine, hx, a7P, ← hxo, hp0, eqm x.1 28]
    by_cases e27 : n.1 = 27
    · simp only [bt e27, cond_true, dt e27, Bool.true_or]
      cases decide (x.1 = 28) <;> simp
    · by_cases e28 : n.1 = 28
      · have := h28 e28
        by_cases eb : n.2.2.1 = -1
        · have hl : (kids n).length ≠ 2 := fun hh => (this.1 hh) eb
          simp only [bf e27, bt e28, cond_true, cond_false, bf (show (((kids n).length : Nat) : Int) ≠ 2 by omega), dt e28, df e27, df (show ¬ (n.2.2.1 ≠ -1) from fun h => h eb), Bool.false_or, Bool.true_and, Bool.false_and]
          cases decide (x.1 = 28) <;> simp
        · have hl : (kids n).length = 2 := this.2 eb
          simp only [bf e27, bt e28, cond_true, cond_false, bt (show (((kids n).length : Nat) : Int) = 2 by omega), dt e28, df e27, dt (show n.2.2.1 ≠ -1 from eb), Bool.false_or, Bool.true_and]
          cases decide (x.1 = 28) <;> cases decide (pre.length = 0) <;> simp
      · simp only [bf e27, bf e28, cond_false, df e28, df e27, Bool.false_or, Bool.false_and]
        cases decide (x.1 = 28) <;> simp
   cases hA : a7P e n pre.length k with
   | false =>
     rw [hA, if_neg (by decide)] at hbody
     exact .inr ⟨by simp [O2, hA], b3I hbody⟩
   | true =>
     rw [hA, if_pos rfl] at hbody
     rcases ih with ⟨h1, h2⟩ | ⟨h1, h2⟩
     · exact .inl ⟨by simp [O2, hA, h1], b3I (hbody.trans h2)⟩
     · exact .inr ⟨by simp [O2, hA, h1], b3I (hbody.trans h2)⟩
theorem b7l (n : Nd) (h : n.1 = 28) : (kids n).length = 2 ↔ n.2.2.1 ≠ -1 := by
 obtain ⟨op, a, b, c, k, nm⟩ := n
 simp only at h
 subst h
 by_cases hb : b = -1
 · subst hb; simp [kids]
 · simp [kids, hb]
theorem b9l {e : List Nd} {i : Nat} {n : Nd} (hi : nth e i = some n) (hil : i < e.length) (hk : ∀ k ∈ kids n, 0 ≤ k ∧ k < e.length) : b9D T.rf e (i : Nat) = some (O2 e n (kids n) 0) := d1F (by
 have := a8p e n (b7l n) (kids n) [] rfl hk
 simp only [length_nil] at this
 rw [show ((0 : Nat) : Int) = (0 : Int) from rfl] at this
 simp only [c1k, N7, dt hil, cond_true, Int.toNat_natCast, hi, bind_some, N1]
 rcases this with ⟨h1, h2⟩ | ⟨h1, h2⟩ <;> rw [h1, h2] <;> rfl)
def cnt (N : Nat) (V : List Nat) : List Int := (List.range N).map fun j => ((V.count j : Nat) : Int)
theorem a3b (N : Nat) (V : List Nat) : (cnt N V).length = N := by simp [cnt]
theorem a9y {N : Nat} {V : List Nat} {k : Nat} (h : k < N) : nth (cnt N V) k = some ((V.count k : Nat) : Int) := by
 rw [nth_getElem?, cnt, List.getElem?_map, List.getElem?_range h]; rfl
theorem b9Q {N : Nat} {V : List Nat} {k : Nat} (h : k < N) : m5 (cnt N V) k (((V.count k + 1 : Nat) : Int)) = cnt N (V ++ [k]) := by
 rw [H2]
 apply List.ext_getElem?
 intro j
 rw [List.getElem?_set]
 by_cases hj : j < N
 · simp only [cnt, List.getElem?_map, List.getElem?_range hj, List.length_map, List.length_range]
   by_cases e : k = j
   · subst e; simp [h, List.count_append]
   · simp [e, List.count_append, List.count_singleton]
 · have hne : k ≠ j := by omega
   rw [if_neg hne, List.getElem?_eq_none (by rw [a3b]; omega), List.getElem?_eq_none (by rw [a3b]; omega)]
def N0 (i : Nat) (ks : List Int) : Bool := ks.all fun k => decide (0 ≤ k ∧ k < i)
theorem a3H (N i : Nat) (hi : i < N) (ks : List Int) (hks : ks.length ≤ 3) : ∀ (suf pre : List Int) (V : List Nat), ks = pre ++ suf → V.length + suf.length ≤ 1000000000 →
  (N0 i suf = true ∧ b2p T.rb (cnt N V) ks (i : Nat) (pre.length : Nat) = some (.inr (cnt N (V ++ suf.map Int.toNat), ks))) ∨
  (N0 i suf = false ∧ ∃ u, b2p T.rb (cnt N V) ks (i : Nat) (pre.length : Nat) = some (.inl (u, ks, false)))
 | [], pre, V, h, hV => .inl ⟨rfl, b1a (by
   rw [h]; simp only [b0x, l8, o6, List.append_nil, cond_false, List.map_nil])⟩
 | k :: suf, pre, V, h, hV => by
   simp only [length_cons] at hV
   have ih := a3H N i hi ks hks suf (pre ++ [k]) (V ++ [k.toNat]) (by rw [h]; simp) (by simp; omega)
   have hpl : (pre ++ [k]).length = pre.length + 1 := by simp
   rw [hpl] at ih
   have a1 : decide (((pre.length : Nat) : Int) < ((ks.length : Nat) : Int)) = true := by rw [h]; exact j6 pre k suf
   have a2 : inb ((pre.length : Nat) : Int) ks.length = true := by rw [h]; exact e8 pre k suf
   have a3 : nth ks ((pre.length : Nat) : Int).toNat = some k := by rw [h]; exact e9 pre k suf
   have a4 : IntKind.i64.wrap (((pre.length : Nat) : Int) + 1) = ((pre.length + 1 : Nat) : Int) := L1 (by rw [h] at hks; simp at hks; omega)
   by_cases h1 : 0 ≤ k
   case neg => exact .inr ⟨by simp [N0, h1], _, b1a (by
    simp only [b0x, a1, a2, a3, cond_true, bind_some, dt (show k < 0 by omega)]; rfl)⟩
   by_cases h2 : k < i
   case neg => exact .inr ⟨by simp [N0, h2], _, b1a (by
    simp only [b0x, a1, a2, a3, cond_true, bind_some, df (show ¬ k < 0 by omega), cond_false, dt (show k ≥ i by omega)]; rfl)⟩
   have hkN : k.toNat < N := by omega
   have hin : inb k (cnt N V).length = true := D1 h1 (by rw [a3b]; omega)
   have hbl : Nat.blt k.toNat (cnt N V).length = true := a4L (by rw [a3b]; exact hkN)
   have hcl : V.count k.toNat ≤ V.length := List.count_le_length
   have hbody : b0x T.rf T.rb (cnt N V) ks (i : Nat) (pre.length : Nat) = b2p T.rb (cnt N (V ++ [k.toNat])) ks (i : Nat) ((pre.length + 1 : Nat) : Int) := by
    simp only [b0x, a1, a2, a3, a4, cond_true, bind_some, df (show ¬ k < 0 by omega), cond_false, df (show ¬ k ≥ i by omega), hin, a9y hkN, hbl, L1 (show V.count k.toNat < 4611686018427387904 by omega), b9Q hkN]
   have hr : N0 i (k :: suf) = N0 i suf := by simp [N0, h1, h2]
   rw [hr]
   rcases ih with ⟨g1, g2⟩ | ⟨g1, u, g2⟩
   · refine .inl ⟨g1, b1a (hbody.trans ?_)⟩
     rw [g2]; simp
   · exact .inr ⟨g1, u, b1a (hbody.trans g2)⟩
def C0 (e : List Nd) : List Nd → Nat → List Nat → Option (List Nat)
 | [], _, V => some V
 | n :: r, i, V => if a0u n = true ∧ N0 i (kids n) = true ∧ O2 e n (kids n) 0 = true then C0 e r (i + 1) (V ++ (kids n).map Int.toNat) else none
theorem b0Y (n : Nd) : a0u n = (decide (1 ≤ n.1) && (decide (n.1 ≤ 28) && (decide (n = aim (n.1, -1, -1, -1, n.2.2.2.2) (kids n)) && decide (0 ≤ n.2.2.2.2.1 ∧ n.2.2.2.2.1 ≤ V0 n.1 ∧ (n.2.2.2.2.2 ≠ [] ↔ (n.1 = 3 ∨ n.1 = 27)))))) := by
 unfold a0u
 rw [Bool.eq_iff_iff]
 simp only [decide_eq_true_eq, and_eq_true]
theorem a3G (e : List Nd) (hN : e.length ≤ 1000000) : ∀ (suf pre : List Nd) (V : List Nat), e = pre ++ suf → V.length ≤ 3 * pre.length →
  match C0 e suf pre.length V with
  | some V' => b2o T.rb (cnt e.length V) e (pre.length : Nat) = some (.inr (cnt e.length V'))
  | none => ∃ u, b2o T.rb (cnt e.length V) e (pre.length : Nat) = some (.inl (u, false))
 | [], pre, V, h, hV => b7M (by
   subst h
   simp only [a6d, l8, o6, List.append_nil, cond_false])
 | n :: suf, pre, V, h, hV => by
   have hk3 := O6 n
   have ih := a3G e hN suf (pre ++ [n]) (V ++ (kids n).map Int.toNat) (by rw [h]; simp) (by simp; omega)
   have hpl : (pre ++ [n]).length = pre.length + 1 := by simp
   rw [hpl] at ih
   have hlt : pre.length < e.length := by rw [h]; simp
   have hl2 := a3H e.length pre.length hlt (kids n) hk3 (kids n) [] V rfl (by omega)
   simp only [length_nil] at hl2
   rw [show ((0 : Nat) : Int) = (0 : Int) from rfl] at hl2
   have a1 : decide (((pre.length : Nat) : Int) < ((e.length : Nat) : Int)) = true := dt (by omega)
   have a2 : inb ((pre.length : Nat) : Int) e.length = true := D1 (by omega) (by omega)
   have a3' : nth e pre.length = some n := by rw [h, nth_getElem?]; simp
   have a3 : nth e ((pre.length : Nat) : Int).toNat = some n := by rw [Int.toNat_natCast]; exact a3'
   have a4 : IntKind.i64.wrap (((pre.length : Nat) : Int) + 1) = ((pre.length + 1 : Nat) : Int) := L1 (by omega)
   rw [C0]
   have out : ∀ {u}, a6d T.rf T.rb (cnt e.length V) e (pre.length : Nat) = some (.inl (u, false)) → ∃ u, b2o T.rb (cnt e.length V) e (pre.length : Nat) = some (.inl (u, false)) := fun h => ⟨_, b7M h⟩
   have hsp := b0Y n
   by_cases h1 : 1 ≤ n.1
   case neg =>
    rw [df h1, Bool.false_and] at hsp
    rw [if_neg (by rw [hsp]; intro hh; cases hh.1)]
    exact out (u := cnt e.length V) (by simp only [a6d, a1, a2, a3, cond_true, bind_some, dt (show n.1 < 1 by omega)])
   by_cases h2 : n.1 ≤ 28
   case neg =>
    rw [df h2, Bool.false_and, Bool.and_false] at hsp
    rw [if_neg (by rw [hsp]; intro hh; cases hh.1)]
    exact out (u := cnt e.length V) (by simp only [a6d, a1, a2, a3, cond_true, bind_some, df (show ¬ n.1 < 1 by omega), cond_false, dt (show n.1 > 28 by omega)])
   rw [dt h1, dt h2, Bool.true_and, Bool.true_and] at hsp
   cases hb : decide (n = aim (n.1, -1, -1, -1, n.2.2.2.2) (kids n))
   · rw [hb, Bool.false_and] at hsp
     rw [if_neg (by rw [hsp]; intro hh; cases hh.1)]
     exact out (u := cnt e.length V) (by simp only [a6d, a1, a2, a3, cond_true, bind_some, df (show ¬ n.1 < 1 by omega), cond_false, df (show ¬ n.1 > 28 by omega), a9u, hb, Bool.not_false])
   rw [hb, Bool.true_and] at hsp
   cases hp : decide (0 ≤ n.2.2.2.2.1 ∧ n.2.2.2.2.1 ≤ V0 n.1 ∧ (n.2.2.2.2.2 ≠ [] ↔ (n.1 = 3 ∨ n.1 = 27)))
   · rw [hp] at hsp
     rw [if_neg (by rw [hsp]; intro hh; cases hh.1)]
     exact out (u := cnt e.length V) (by simp only [a6d, a1, a2, a3, cond_true, bind_some, df (show ¬ n.1 < 1 by omega), cond_false, df (show ¬ n.1 > 28 by omega), a9u, hb, Bool.not_true, a1g, hp, Bool.not_false])
   rw [hp] at hsp
   have hbody : a6d T.rf T.rb (cnt e.length V) e (pre.length : Nat) = (b2p T.rb (cnt e.length V) (kids n) (pre.length : Nat) 0).bind fun z => match z with
     | .inl u => some (.inl (u.1, u.2.2))
     | .inr w => (b9D T.rf e (pre.length : Nat)).bind fun y => bif !y then some (.inl (w.1, false)) else b2o T.rb w.1 e ((pre.length + 1 : Nat) : Int) := by
    simp only [a6d, a1, a2, a3, cond_true, cond_false, bind_some, df (show ¬ n.1 < 1 by omega), df (show ¬ n.1 > 28 by omega), a9u, hb, Bool.not_true, a1g, hp, N1, a4]
    rfl
   rcases hl2 with ⟨g1, g2⟩ | ⟨g1, u, g2⟩
   · have hkr : ∀ k ∈ kids n, 0 ≤ k ∧ k < e.length := fun k hk => by
      have := List.all_eq_true.1 g1 k hk
      simp only [decide_eq_true_eq] at this
      omega
     rw [g2, bind_some] at hbody
     simp only [b9l a3' hlt hkr, bind_some] at hbody
     cases ha : O2 e n (kids n) 0
     · rw [ha] at hbody
       rw [if_neg (by intro hh; cases hh.2.2)]
       exact out hbody
     · rw [ha] at hbody
       rw [if_pos ⟨hsp, g1, rfl⟩]
       cases hs : C0 e suf (pre.length + 1) (V ++ (kids n).map Int.toNat) with
       | none =>
         rw [hs] at ih
         obtain ⟨u, ih⟩ := ih
         exact out (hbody.trans ih)
       | some V' =>
         rw [hs] at ih
         exact b7M (hbody.trans ih)
   · rw [if_neg (by rw [g1]; intro hh; cases hh.2.1)]
     rw [g2] at hbody
     exact out hbody
theorem a3I (e : List Nd) (he : e ≠ []) (hN : e.length ≤ 1000000) (V : List Nat) : ∀ (m j : Nat), j + m = e.length - 1 →
  ((∀ q, j ≤ q → q < e.length - 1 → V.count q = 1) ∧ b4Z T.rb (cnt e.length V) e (j : Nat) = some (.inr (cnt e.length V))) ∨
  ((∃ q, j ≤ q ∧ q < e.length - 1 ∧ V.count q ≠ 1) ∧ b4Z T.rb (cnt e.length V) e (j : Nat) = some (.inl (cnt e.length V, false)))
 | 0, j, h => .inl ⟨fun q h1 h2 => by omega, b3J (by
   simp only [b1X, a0a he (by omega), df (show ¬ ((j : Int) < ((e.length - 1 : Nat) : Int)) by omega), cond_false])⟩
 | m + 1, j, h => by
   have ih := a3I e he hN V m (j + 1) (by omega)
   have hj : j < e.length := by omega
   have hin : inb (j : Int) (cnt e.length V).length = true := D1 (by omega) (by rw [a3b]; omega)
   by_cases hc : V.count j = 1
   · have hbody : b1X T.rf T.rb (cnt e.length V) e (j : Nat) = b4Z T.rb (cnt e.length V) e ((j + 1 : Nat) : Int) := by
      simp only [b1X, a0a he (by omega), dt (show ((j : Int) < ((e.length - 1 : Nat) : Int)) by omega), cond_true, hin, Int.toNat_natCast, a9y hj, bind_some, hc, L1 (show j < 4611686018427387904 by omega)]
      rfl
     rcases ih with ⟨g1, g2⟩ | ⟨⟨q, g1, g3, g4⟩, g2⟩
     · refine .inl ⟨fun q h1 h2 => ?_, b3J (hbody.trans g2)⟩
       rcases Nat.lt_or_eq_of_le h1 with h3 | h3
       · exact g1 q h3 h2
       · subst h3; exact hc
     · exact .inr ⟨⟨q, by omega, g3, g4⟩, b3J (hbody.trans g2)⟩
   · refine .inr ⟨⟨j, Nat.le_refl _, by omega, hc⟩, b3J ?_⟩
     simp only [b1X, a0a he (by omega), dt (show ((j : Int) < ((e.length - 1 : Nat) : Int)) by omega), cond_true, hin, Int.toNat_natCast, a9y hj, bind_some, nbf (show ((V.count j : Nat) : Int) ≠ 1 by omega)]
theorem X7 : ∀ l : List Nat, l.Nodup ↔ ∀ j, l.count j ≤ 1
 | [] => by simp
 | a :: l => by
   rw [List.nodup_cons, X7 l]
   constructor
   · rintro ⟨h1, h2⟩ j
     rw [List.count_cons]
     by_cases e : a = j
     · subst e; rw [List.count_eq_zero.2 h1]; simp
     · simp [e, h2 j]
   · intro h
     refine ⟨fun hm => ?_, fun j => ?_⟩
     · have := h a
       rw [List.count_cons_self] at this
       have := List.count_pos_iff.2 hm
       omega
     · have := h j
       rw [List.count_cons] at this
       omega
theorem a4C (e : List Nd) (n : Nd) (i : Nat) : ∀ (ks : List Int) (a : Nat) (V V' : List Nat), V.Nodup → (a2p e n i ks a V = some V' ↔ N0 i ks = true ∧ O2 e n ks a = true ∧ V' = V ++ ks.map Int.toNat ∧ V'.Nodup)
 | [], a, V, V', hV => by
   simp only [a2p, N0, O2, List.all_nil, List.map_nil, List.append_nil, true_and, Option.some.injEq]
   constructor
   · rintro rfl; exact ⟨rfl, hV⟩
   · rintro ⟨rfl, _⟩; rfl
 | k :: ks, a, V, V', hV => by
   rw [a2p]
   split
   · rename_i h
     have hV2 : (V ++ [k.toNat]).Nodup := List.nodup_append.2 ⟨hV, by simp, fun x hx y hy => by simp at hy; subst hy; intro e; subst e; exact h.2.2.1 hx⟩
     rw [a4C e n i ks (a + 1) (V ++ [k.toNat]) V' hV2]
     simp [N0, O2, h.1, h.2.1, h.2.2.2]
   · rename_i h
     constructor
     · intro hh; cases hh
     · rintro ⟨h1, h2, h3, h4⟩
       exfalso
       simp only [N0, List.all_cons, and_eq_true, decide_eq_true_eq] at h1
       simp only [O2, and_eq_true] at h2
       refine h ⟨h1.1.1, h1.1.2, fun hm => ?_, h2.1⟩
       rw [h3] at h4
       exact (List.nodup_append.1 h4).2.2 _ hm _ (by simp) rfl
theorem a1T (e : List Nd) : ∀ (r : List Nd) (i : Nat) (V V' : List Nat), C0 e r i V = some V' → ∃ W, V' = V ++ W
 | [], i, V, V', h => by cases h; exact ⟨[], by simp⟩
 | n :: r, i, V, V', h => by
   rw [C0] at h
   split at h
   · obtain ⟨W, rfl⟩ := a1T e r _ _ _ h
     exact ⟨(kids n).map Int.toNat ++ W, by simp⟩
   · cases h
theorem Y3 (e : List Nd) : ∀ (r : List Nd) (i : Nat) (V V' : List Nat), V.Nodup → (scan e r i V = some V' ↔ C0 e r i V = some V' ∧ V'.Nodup)
 | [], i, V, V', hV => by
   simp only [scan, C0, Option.some.injEq]
   constructor
   · rintro rfl; exact ⟨rfl, hV⟩
   · exact fun h => h.1
 | n :: r, i, V, V', hV => by
   rw [scan, C0]
   by_cases hn : a0u n = true
   case neg => rw [if_neg hn, if_neg (fun h => hn h.1)]; simp
   rw [if_pos hn]
   cases hs : a2p e n i (kids n) 0 V with
   | some V1 =>
     obtain ⟨g1, g2, g3, g4⟩ := (a4C e n i (kids n) 0 V V1 hV).1 hs
     rw [if_pos ⟨hn, g1, g2⟩]
     subst g3
     exact Y3 e r (i + 1) _ V' g4
   | none =>
     constructor
     · intro h; cases h
     · rintro ⟨h, hd⟩
       split at h
       · rename_i hc
         obtain ⟨W, rfl⟩ := a1T e r _ _ _ h
         have := (a4C e n i (kids n) 0 V (V ++ (kids n).map Int.toNat) hV).2 ⟨hc.2.1, hc.2.2, rfl, (List.nodup_append.1 hd).1⟩
         rw [hs] at this; cases this
       · cases h
theorem a3O (e : List Nd) (m : Nat) : ∀ (r : List Nd) (i : Nat) (V V' : List Nat), C0 e r i V = some V' → (∀ x ∈ V, x < m) → i + r.length ≤ m + 1 → ∀ x ∈ V', x < m
 | [], i, V, V', h, hV, hm => by cases h; exact hV
 | n :: r, i, V, V', h, hV, hm => by
   rw [C0] at h
   simp only [length_cons] at hm
   split at h
   · rename_i hc
     refine a3O e m r (i + 1) _ V' h (fun x hx => ?_) (by omega)
     rcases List.mem_append.1 hx with hx | hx
     · exact hV x hx
     · obtain ⟨k, hk, rfl⟩ := List.mem_map.1 hx
       have := List.all_eq_true.1 hc.2.1 k hk
       simp only [decide_eq_true_eq] at this
       omega
   · cases h
theorem a9d {e : List Nd} (h : e.length ≤ 1000000) : b9C T.rf e = some (F9 e) := d1C (by
 simp only [c1h, F9]
 by_cases he : e = []
 · subst he; rfl
 have hpos := List.length_pos_iff.2 he
 rw [df (show ¬ ((e.length : Nat) : Int) < 1 by omega), cond_false, dt he, Bool.true_and]
 by_cases hl : e.length ≤ 5000
 case neg => rw [dt (show ((e.length : Nat) : Int) > 5000 by omega), cond_true, df hl, Bool.false_and]
 rw [df (show ¬ ((e.length : Nat) : Int) > 5000 by omega), cond_false, dt hl, Bool.true_and]
 rw [S0, dt (show e.length ≤ j4 by unfold j4; omega), cond_true, S0, dt (Nat.le_refl _), cond_true]
 have h0 := a3G e (by omega) e [] [] rfl (by simp)
 have hu : cnt e.length [] = List.replicate e.length 0 := by
  apply List.ext_getElem?
  intro j
  simp only [cnt, List.getElem?_map, List.getElem?_replicate]
  by_cases hj : j < e.length
  · rw [List.getElem?_range hj, if_pos hj]; simp
  · rw [List.getElem?_eq_none (by simp; omega), if_neg hj]; rfl
 rw [hu] at h0
 simp only [length_nil] at h0
 rw [show ((0 : Nat) : Int) = (0 : Int) from rfl] at h0
 have hiff := fun V => Y3 e e 0 [] V (by simp)
 cases hs : C0 e e 0 [] with
 | none =>
   rw [hs] at h0
   obtain ⟨u, h0⟩ := h0
   have hn : scan e e 0 [] = none := by
    cases hsc : scan e e 0 [] with
    | none => rfl
    | some V => have := ((hiff V).1 hsc).1; rw [hs] at this; cases this
   rw [h0, hn, Bool.and_false]; rfl
 | some V =>
   rw [hs] at h0
   rw [h0]
   simp only [bind_some]
   have hlt := a3O e (e.length - 1) e 0 [] V hs (by simp) (by omega)
   have h4 := a3I e he (by omega) V (e.length - 1) 0 (by omega)
   rw [show ((0 : Nat) : Int) = (0 : Int) from rfl] at h4
   obtain ⟨x, hx, hxo⟩ := a3y (e := e) (k := e.length - 1) (by omega)
   rcases h4 with ⟨g1, g2⟩ | ⟨⟨q, _, g3, g4⟩, g2⟩
   · have hnd : V.Nodup := (X7 V).2 fun j => by
      by_cases hj : j < e.length - 1
      · rw [g1 j (by omega) hj]; omega
      · rw [List.count_eq_zero.2 (fun hm => hj (hlt j hm))]; omega
     have hsc := (hiff V).2 ⟨hs, hnd⟩
     have hall : ((List.range (e.length - 1)).all fun j => decide (j ∈ V)) = true := List.all_eq_true.2 fun j hj => by
      have := g1 j (by omega) (List.mem_range.1 hj)
      exact dt (List.count_pos_iff.1 (by omega))
     rw [g2, hsc]
     simp only [bind_some, hall, Bool.true_and]
     rw [a0a he (by omega), N7, dt (show e.length - 1 < e.length by omega), cond_true, Int.toNat_natCast, hx, bind_some]
     by_cases h28 : x.1 = 28
     · rw [nbt h28, cond_false, df (show ¬ (a5z e (e.length - 1) ≠ 28) from fun g => g (hxo ▸ h28)), Bool.false_and]
     · rw [nbf h28, cond_true, dt (show a5z e (e.length - 1) ≠ 28 from hxo ▸ h28), Bool.true_and, b1o (by omega), bind_some]
   · rw [g2]
     have : (match scan e e 0 [] with
       | none => false
       | some V => (List.range (e.length - 1)).all (fun j => decide (j ∈ V)) && decide (depth e ≤ 40)) = false := by
      cases hsc : scan e e 0 [] with
      | none => rfl
      | some V1 =>
        obtain ⟨k1, k2⟩ := (hiff V1).1 hsc
        rw [hs] at k1
        cases k1
        have hq : q ∉ V := fun hm => g4 (by
         have := (X7 V).1 k2 q
         have := List.count_pos_iff.2 hm
         omega)
        have : ((List.range (e.length - 1)).all fun j => decide (j ∈ V)) = false := List.all_eq_false.2 ⟨q, List.mem_range.2 g3, by simpa using hq⟩
        simp only [this, Bool.false_and]
     rw [show ∀ (A B : Bool), B = false → some (A && B) = some false from fun A B hb => by rw [hb, Bool.and_false]]
     · rfl
     · exact this)
def nd0 : Nd := (0, 0, 0, 0, 0, [])
def a0F (g : Int → List Nd → List Nd) : List Int → List Nd → List Int → List Nd × List Int
 | [], o, ks => (o, ks)
 | k :: r, o, ks => a0F g r (g k o) (ks ++ [((g k o).length : Int) - 1])
def ord (e : List Nd) : Nat → Int → List Nd → List Nd
 | 0, _, o => o
 | f + 1, i, o => (a0F (ord e f) (kids (e.getD i.toNat nd0)) o []).1 ++ [aim (e.getD i.toNat nd0) (a0F (ord e f) (kids (e.getD i.toNat nd0)) o []).2]
def szL (g : Int → Nat) : List Int → Nat
 | [] => 0
 | k :: r => g k + szL g r
def sz (e : List Nd) : Nat → Int → Nat
 | 0, _ => 0
 | f + 1, i => 1 + szL (sz e f) (kids (e.getD i.toNat nd0))
def b5D (e : List Nd) : Prop := ∀ (i : Nat) (n : Nd), nth e i = some n → ∀ k ∈ kids n, 0 ≤ k ∧ k < i
theorem a1U {g h : Int → Nat} : ∀ {ks : List Int}, (∀ k ∈ ks, g k = h k) → szL g ks = szL h ks
 | [], _ => rfl
 | k :: r, hh => by rw [szL, szL, hh k List.mem_cons_self, a1U fun q hq => hh q (List.mem_cons_of_mem _ hq)]
theorem R8 {e : List Nd} {i : Nat} (h : i < e.length) : nth e i = some (e.getD i nd0) := by
 rw [b0Z h, List.getD_eq_getElem?_getD, List.getElem?_eq_getElem h]; rfl
theorem a5N {e : List Nd} (hA : b5D e) : ∀ (f i : Nat), i < f → i < e.length → sz e f (i : Int) = sz e (i + 1) (i : Int)
 | 0, i, h, _ => by omega
 | f + 1, i, h, hi => by
   rw [sz, sz]
   congr 1
   refine a1U fun k hk => ?_
   rw [Int.toNat_natCast] at hk
   have := hA i _ (R8 hi) k hk
   obtain ⟨j, rfl⟩ : ∃ j : Nat, k = j := ⟨k.toNat, by omega⟩
   rw [a5N hA f j (by omega) (by omega), a5N hA i j (by omega) (by omega)]
 termination_by f => f
def a0C (S : Nat → Nat) (V : List Nat) : Nat → Nat
 | 0 => 0
 | i + 1 => a0C S V i + if i ∈ V then 0 else S i
theorem b0s (S : Nat → Nat) (V : List Nat) (k : Nat) (hk : k ∉ V) : ∀ i, a0C S (V ++ [k]) i + (if k < i then S k else 0) = a0C S V i
 | 0 => by simp [a0C]
 | i + 1 => by
   have ih := b0s S V k hk i
   simp only [a0C, List.mem_append, List.mem_singleton]
   by_cases e : i = k
   · subst e
     rw [if_neg (by omega)] at ih
     simp [hk]; omega
   · by_cases hV : i ∈ V
     · simp only [hV, true_or, if_true]
       by_cases hlt : k < i
       · rw [if_pos hlt] at ih; rw [if_pos (by omega)]; omega
       · rw [if_neg hlt] at ih; rw [if_neg (by omega)]; omega
     · simp only [hV, e, or_self, if_false]
       by_cases hlt : k < i
       · rw [if_pos hlt] at ih; rw [if_pos (by omega)]; omega
       · rw [if_neg hlt] at ih; rw [if_neg (by omega)]; omega
theorem a4a (S : Nat → Nat) (i : Nat) : ∀ (ks : List Int) (V : List Nat), (V ++ ks.map Int.toNat).Nodup → (∀ k ∈ ks, 0 ≤ k ∧ k < i) → a0C S (V ++ ks.map Int.toNat) i + szL (fun k => S k.toNat) ks = a0C S V i
 | [], V, _, _ => by simp [szL]
 | k :: ks, V, hn, hk => by
   have hk0 := hk k List.mem_cons_self
   have e : V ++ (k :: ks).map Int.toNat = (V ++ [k.toNat]) ++ ks.map Int.toNat := by simp
   rw [e] at hn ⊢
   have ih := a4a S i ks (V ++ [k.toNat]) hn (fun q hq => hk q (List.mem_cons_of_mem _ hq))
   have hkV : k.toNat ∉ V := fun hm => (List.nodup_append.1 (List.nodup_append.1 hn).1).2.2 _ hm _ (by simp) rfl
   have := b0s S V k.toNat hkV i
   rw [if_pos (by omega)] at this
   rw [szL]; omega
theorem b1B (e : List Nd) (S : Nat → Nat) (hS : ∀ i n, nth e i = some n → S i = 1 + szL (fun k => S k.toNat) (kids n)) : ∀ (suf pre : List Nd) (V V' : List Nat), e = pre ++ suf → C0 e suf pre.length V = some V' → V'.Nodup →
  (∀ x ∈ V, x < pre.length) → a0C S V pre.length = pre.length → (∀ j, j < pre.length → S j ≤ j + 1) → ∀ j, j < e.length → S j ≤ j + 1
 | [], pre, V, V', h, hs, hn, hV, hU, hj, j, hjl => hj j (by rw [h] at hjl; simpa using hjl)
 | n :: suf, pre, V, V', h, hs, hn, hV, hU, hj, j, hjl => by
   rw [C0] at hs
   split at hs
   case isFalse => cases hs
   rename_i hc
   have hpl : (pre ++ [n]).length = pre.length + 1 := by simp
   have hi : nth e pre.length = some n := by rw [h, nth_getElem?]; simp
   obtain ⟨W, rfl⟩ := a1T e suf _ _ _ hs
   have hn1 := (List.nodup_append.1 hn).1
   have hr : ∀ k ∈ kids n, 0 ≤ k ∧ k < pre.length := fun k hk => by simpa using List.all_eq_true.1 hc.2.1 k hk
   have hV' : ∀ x ∈ V ++ (kids n).map Int.toNat, x < pre.length := fun x hx => by
    rcases List.mem_append.1 hx with hx | hx
    · exact hV x hx
    · obtain ⟨k, hk, rfl⟩ := List.mem_map.1 hx
      have := hr k hk; omega
   have hU' := a4a S pre.length (kids n) V hn1 hr
   have hSi := hS _ _ hi
   have hSU : a0C S (V ++ (kids n).map Int.toNat) (pre.length + 1) = pre.length + 1 := by
    rw [a0C, if_neg (fun hm => by have := hV' _ hm; omega)]; omega
   refine b1B e S hS suf (pre ++ [n]) _ _ (by rw [h]; simp) (by rw [hpl]; exact hs) hn (fun x hx => by have := hV' x hx; rw [hpl]; omega) (by rw [hpl]; exact hSU) (fun q hq => ?_) j hjl
   rw [hpl] at hq
   rcases Nat.lt_or_eq_of_le (Nat.le_of_lt_succ hq) with h1 | h1
   · exact hj q h1
   · subst h1
     rw [a0C, if_neg (fun hm => by have := hV' _ hm; omega)] at hSU
     omega
theorem a5s (e : List Nd) : ∀ (suf pre : List Nd) (V V' : List Nat), e = pre ++ suf → C0 e suf pre.length V = some V' → ∀ (i : Nat) (n : Nd), pre.length ≤ i → nth e i = some n → a0u n = true ∧ O2 e n (kids n) 0 = true ∧ ∀ k ∈ kids n, 0 ≤ k ∧ k < i
 | [], pre, V, V', h, hs, i, n, hi, hn => by
   rw [nth_getElem?] at hn
   have := (List.getElem?_eq_some_iff.1 hn).1
   rw [h] at this; simp at this; omega
 | m :: suf, pre, V, V', h, hs, i, n, hi, hn => by
   rw [C0] at hs
   split at hs
   case isFalse => cases hs
   rename_i hc
   have hpl : (pre ++ [m]).length = pre.length + 1 := by simp
   rcases Nat.lt_or_eq_of_le hi with h1 | h1
   · exact a5s e suf (pre ++ [m]) _ _ (by rw [h]; simp) (by rw [hpl]; exact hs) i n (by rw [hpl]; exact h1) hn
   · subst h1
     rw [h, nth_getElem?] at hn
     simp at hn
     subst hn
     exact ⟨hc.1, hc.2.2, fun k hk => by simpa using List.all_eq_true.1 hc.2.1 k hk⟩
structure MayP (e : List Nd) : Prop where
 ne : e ≠ []
 len : e.length ≤ 5000
 last : a5z e (e.length - 1) ≠ 28
 deep : depth e ≤ 40
 node : ∀ (i : Nat) (n : Nd), nth e i = some n → a0u n = true
 args : ∀ (i : Nat) (n : Nd), nth e i = some n → O2 e n (kids n) 0 = true
 ahead : b5D e
 small : ∀ i : Nat, i < e.length → sz e (i + 1) (i : Int) ≤ i + 1
theorem a2i {e : List Nd} (h : F9 e = true) : MayP e := by
 simp only [F9, and_eq_true, decide_eq_true_eq] at h
 obtain ⟨h1, h2, h3, h4⟩ := h
 split at h4
 · cases h4
 rename_i V hs
 simp only [and_eq_true, decide_eq_true_eq] at h4
 obtain ⟨k1, k2⟩ := (Y3 e e 0 [] V (by simp)).1 hs
 have hA := a5s e e [] [] V rfl k1
 have hah : b5D e := fun i n hn => (hA i n (by simp) hn).2.2
 refine ⟨h1, h2, h3, h4.2, fun i n hn => (hA i n (by simp) hn).1, fun i n hn => (hA i n (by simp) hn).2.1, hah, ?_⟩
 refine b1B e (fun i => sz e (i + 1) (i : Int)) (fun i n hn => ?_) e [] [] V rfl k1 k2 (by simp) rfl (by simp)
 have hil : i < e.length := by rw [nth_getElem?] at hn; exact (List.getElem?_eq_some_iff.1 hn).1
 have hg : e.getD i nd0 = n := by have := R8 hil; rw [hn] at this; exact (Option.some.inj this).symm
 show sz e (i + 1) (i : Int) = _
 rw [sz, Int.toNat_natCast, hg]
 congr 1
 refine a1U fun k hk => ?_
 have := hah i n hn k hk
 obtain ⟨j, rfl⟩ : ∃ j : Nat, k = j := ⟨k.toNat, by omega⟩
 rw [Int.toNat_natCast]
 exact a5N hah i j (by omega) (by omega)
theorem a3A {g : Int → List Nd → List Nd} {s : Int → Nat} : ∀ (ks : List Int) (o : List Nd) (q : List Int), (∀ k ∈ ks, ∀ o, (g k o).length = o.length + s k) → (a0F g ks o q).1.length = o.length + szL s ks ∧ (a0F g ks o q).2.length = q.length + ks.length
 | [], o, q, _ => by simp [a0F, szL]
 | k :: r, o, q, h => by
   have ih := a3A r (g k o) (q ++ [((g k o).length : Int) - 1]) (fun x hx => h x (List.mem_cons_of_mem _ hx))
   rw [a0F, ih.1, ih.2, h k List.mem_cons_self, szL]
   simp; omega
theorem a0f {e : List Nd} : ∀ (f : Nat) (i : Int) (o : List Nd), (ord e f i o).length = o.length + sz e f i
 | 0, i, o => by simp [ord, sz]
 | f + 1, i, o => by
   rw [ord, sz, length_append, (a3A _ o [] fun k _ o => a0f f k o).1, List.length_singleton]; omega
theorem b1e {e : List Nd} (hM : MayP e) : ∀ (f i : Nat) (out : List Nd), i < f → i < e.length → out.length + sz e f i ≤ 274877906944 → b9z T.rf out e (i : Nat) = some (ord e f (i : Nat) out)
 | 0, i, out, h, _, _ => by omega
 | f + 1, i, out, h, hi, hb => d1w (by
   have hni := R8 hi
   have hal := hM.ahead i _ hni
   have hlen := hM.len
   have hk3 := O6 (e.getD i nd0)
   have loop : ∀ (suf : List Int) (q : List Int) (o : List Nd), (∀ k ∈ suf, 0 ≤ k ∧ k < i) → q.length + suf.length ≤ 3 → o.length + szL (sz e f) suf ≤ 274877906944 →
     b9Z T.rb o (q ++ suf) e (((q ++ suf).length : Nat) : Int) (q.length : Nat) = some ((a0F (ord e f) suf o q).2, (a0F (ord e f) suf o q).1) := by
    intro suf
    induction suf with
    | nil =>
      intro q o _ _ _
      exact c4j (by simp only [b5W, l8, o6, List.append_nil, cond_false, a0F])
    | cons k suf ih =>
      intro q o hs hq hb
      have hk := hs k List.mem_cons_self
      simp only [length_cons, szL] at hq hb
      obtain ⟨j, rfl⟩ : ∃ j : Nat, k = j := ⟨k.toNat, by omega⟩
      have hrec := b1e hM f j o (by omega) (by omega) (by omega)
      have hl := a0f (e := e) f j o
      have ih := ih (q ++ [((ord e f j o).length : Int) - 1]) (ord e f j o) (fun x hx => hs x (List.mem_cons_of_mem _ hx)) (by simp; omega) (by omega)
      have hll : (q ++ [((ord e f j o).length : Int) - 1] ++ suf).length = (q ++ (j : Int) :: suf).length := by simp
      have hset : m5 (q ++ (j : Int) :: suf) ((q.length : Nat) : Int).toNat (((ord e f j o).length : Int) - 1) = q ++ [((ord e f j o).length : Int) - 1] ++ suf := by
       rw [H2, Int.toNat_natCast, List.set_append_right _ _ (Nat.le_refl _), Nat.sub_self, List.set_cons_zero]; simp
      have hbl : Nat.blt ((q.length : Nat) : Int).toNat (q ++ (j : Int) :: suf).length = true := a4L (by simp)
      refine c4j ?_
      simp only [b5W, j6, e8, e9, cond_true, bind_some, hrec, hbl, b4b (show (ord e f (j : Int) o).length < 4611686018427387904 by omega), hset, j7 q ((j : Nat) : Int) (by omega)]
      rw [a0F, ← hll]
      have e1 : (q ++ [((j : Nat) : Int)]).length = (q ++ [((ord e f j o).length : Int) - 1]).length := by simp
      rw [e1]
      exact ih
   rw [sz, Int.toNat_natCast] at hb
   have hl := loop (kids (e.getD i nd0)) [] out hal (by simpa using hk3) (by omega)
   simp only [List.nil_append, length_nil] at hl
   rw [show ((0 : Nat) : Int) = (0 : Int) from rfl] at hl
   have hol := (a3A (kids (e.getD i nd0)) out [] fun k _ o => a0f (e := e) f k o).1
   simp only [c1c, N7, dt hi, cond_true, Int.toNat_natCast, hni, bind_some, a5L, hl, b4a]
   rw [a6 (by omega)]
   simp only [Bool.and_true, cond_true, ord, Int.toNat_natCast])
theorem a5n {e : List Nd} (hM : MayP e) : ∀ (f i : Nat) (out : List Nd), i < f → i < e.length → out.length + sz e f i ≤ 274877906944 → b9E T.rf out e (i : Nat) = some (ord e f (i : Nat) out)
 | 0, i, out, h, _, _ => by omega
 | f + 1, i, out, h, hi, hb => d1G (by
   have hni := R8 hi
   have hal := hM.ahead i _ hni
   have hlen := hM.len
   have hk3 := O6 (e.getD i nd0)
   have loop : ∀ (suf pre : List Int) (q : List Int) (o : List Nd), (∀ k ∈ suf, 0 ≤ k ∧ k < i) → pre.length + suf.length ≤ 3 → q.length + suf.length ≤ 3 → o.length + szL (sz e f) suf ≤ 274877906944 →
     c0c T.rb o (pre ++ suf) q e (pre.length : Nat) = some (pre ++ suf, (a0F (ord e f) suf o q).1, (a0F (ord e f) suf o q).2) := by
    intro suf
    induction suf with
    | nil =>
      intro pre q o _ _ _ _
      exact c4o (by simp only [b6b, l8, o6, List.append_nil, cond_false, a0F])
    | cons k suf ih =>
      intro pre q o hs hp hq hb
      have hk := hs k List.mem_cons_self
      simp only [length_cons, szL] at hp hq hb
      obtain ⟨j, rfl⟩ : ∃ j : Nat, k = j := ⟨k.toNat, by omega⟩
      have hrec := a5n hM f j o (by omega) (by omega) (by omega)
      have hl := a0f (e := e) f j o
      have ih := ih (pre ++ [(j : Int)]) (q ++ [((ord e f j o).length : Int) - 1]) (ord e f j o) (fun x hx => hs x (List.mem_cons_of_mem _ hx)) (by simp; omega) (by simp; omega) (by omega)
      simp only [List.append_assoc, List.singleton_append] at ih
      refine c4o ?_
      simp only [b6b, j6, e8, e9, cond_true, bind_some, hrec, a6 (show q.length + 1 ≤ 274877906944 by omega), Bool.and_true, b4b (show (ord e f (j : Int) o).length < 4611686018427387904 by omega), j7 pre ((j : Nat) : Int) (by omega)]
      rw [a0F]
      simpa only [List.append_assoc] using ih
   rw [sz, Int.toNat_natCast] at hb
   have hl := loop (kids (e.getD i nd0)) [] [] out hal (by simpa using hk3) (by simpa using hk3) (by omega)
   simp only [List.nil_append, length_nil] at hl
   rw [show ((0 : Nat) : Int) = (0 : Int) from rfl] at hl
   have hol := (a3A (kids (e.getD i nd0)) out [] fun k _ o => a0f (e := e) f k o).1
   simp only [c1l, N7, dt hi, cond_true, Int.toNat_natCast, hni, bind_some, N1, hl, b5O]
   rw [a6 (by omega)]
   simp only [Bool.and_true, cond_true, ord, Int.toNat_natCast])
def b0g (e : List Nd) (i : Int) : List Nd := if 0 ≤ i ∧ i < e.length ∧ F9 e = true then ord e (i.toNat + 1) i [] else []
theorem c5m {e : List Nd} (h : e.length ≤ 1000000) (i : Int) : c5K T.rf e i = some (b0g e i) := d1v (by
 simp only [c1b, b0g]
 by_cases h1 : 0 ≤ i
 case neg => rw [dt (show i < 0 by omega), cond_true, if_neg (by omega)]
 rw [df (show ¬ i < 0 by omega), cond_false]
 by_cases h2 : i < e.length
 case neg => rw [dt (show i ≥ e.length by omega), cond_true, if_neg (by omega)]
 rw [df (show ¬ i ≥ e.length by omega), cond_false, b5L h, bind_some]
 cases hm : F9 e
 · rw [if_neg (by intro hh; cases hh.2.2)]; rfl
 · rw [if_pos ⟨h1, h2, rfl⟩]
   have hM := a2i hm
   obtain ⟨j, rfl⟩ : ∃ j : Nat, i = j := ⟨i.toNat, by omega⟩
   have := hM.small j (by omega)
   have hl := hM.len
   rw [b1e hM (j + 1) j [] (by omega) (by omega) (by simp; omega), Int.toNat_natCast]; rfl)
theorem b5p {e : List Nd} (h : e.length ≤ 1000000) (i : Int) : c5L T.rf e i = some (b0g e i) := d1B (by
 simp only [c1g, b0g, a9d h, bind_some]
 cases hm : F9 e
 · rw [if_neg (by intro hh; cases hh.2.2)]; rfl
 rw [Bool.not_true, cond_false]
 by_cases h1 : 0 ≤ i
 case neg => rw [dt (show i < 0 by omega), cond_true, if_neg (by omega)]
 rw [df (show ¬ i < 0 by omega), cond_false]
 by_cases h2 : i < e.length
 case neg => rw [dt (show i ≥ e.length by omega), cond_true, if_neg (by omega)]
 rw [df (show ¬ i ≥ e.length by omega), cond_false, if_pos ⟨h1, h2, rfl⟩]
 have hM := a2i hm
 obtain ⟨j, rfl⟩ : ∃ j : Nat, i = j := ⟨i.toNat, by omega⟩
 have := hM.small j (by omega)
 have hl := hM.len
 rw [a5n hM (j + 1) j [] (by omega) (by omega) (by simp; omega), Int.toNat_natCast]; rfl)
theorem b8S {e : List Nd} (i : Int) : (b0g e i).length ≤ 5001 := by
 unfold b0g
 split
 · rename_i h
   have hM := a2i h.2.2
   obtain ⟨j, rfl⟩ : ∃ j : Nat, i = j := ⟨i.toNat, by omega⟩
   have := hM.small j (by omega)
   have hl := hM.len
   rw [a0f, Int.toNat_natCast]; simp; omega
 · simp
def b8Z : List Nd → List (List UInt8) → List (List UInt8)
 | [], l => l
 | n :: r, l => if n.1 = 3 ∧ n.2.2.2.2.2 ∉ l then b8Z r (l ++ [n.2.2.2.2.2]) else b8Z r l
theorem b7X {α : Type} {l : List α} (h : l.length ≤ 1000000) : IntKind.i64.wrap ((l.length : Int) - 1) = (l.length : Int) - 1 := wr (by omega)
def norm (e : List Nd) : List Nd := b0g e ((e.length : Int) - 1)
def vars (e : List Nd) : List (List UInt8) := b8Z (norm e) []
theorem a5G {e : List Nd} (h : e.length ≤ 1000000) : a7T T.rf e = some (norm e) := d1A (by
 simp only [c1f, b7X h, b5p h, bind_some]; rfl)
inductive Tr where
 | mk (b : Nd) (ks : List Tr)
mutual
def Tr.size : Tr → Nat
 | .mk b ks => F8 ks + 1
def F8 : List Tr → Nat
 | [] => 0
 | t :: r => t.size + F8 r
end
def roots : List Tr → Nat → List Int
 | [], _ => []
 | t :: r, o => ((o + t.size - 1 : Nat) : Int) :: roots r (o + t.size)
mutual
def flat : Tr → Nat → List Nd
 | .mk b ks, o => D5 ks o ++ [aim b (roots ks o)]
def D5 : List Tr → Nat → List Nd
 | [], _ => []
 | t :: r, o => flat t o ++ D5 r (o + t.size)
end
mutual
def dep : Tr → Int
 | .mk b ks => b4L ks 0 + 1
def b4L : List Tr → Int → Int
 | [], m => m
 | t :: r, m => b4L r (if dep t > m then dep t else m)
end
def Tr.op : Tr → Int
 | .mk b _ => b.1
def blank (n : Nd) : Nd := (n.1, -1, -1, -1, n.2.2.2.2)
mutual
def Emb (e : List Nd) : Nat → Tr → Prop
 | i, .mk b ks => ∃ n, nth e i = some n ∧ b = blank n ∧ n = aim b (kids n) ∧ I6 e i (kids n) ks
def I6 (e : List Nd) (i : Nat) : List Int → List Tr → Prop
 | [], [] => True
 | k :: r, t :: ts => 0 ≤ k ∧ k < i ∧ Emb e k.toNat t ∧ I6 e i r ts
 | _, _ => False
end
theorem Tr.size_pos : ∀ t : Tr, 0 < t.size
 | .mk b ks => by rw [Tr.size]; omega
theorem a1R : ∀ (ks : List Tr) (o : Nat), (roots ks o).length = ks.length
 | [], _ => rfl
 | t :: r, o => by simp [roots, a1R r]
mutual
theorem E7 : ∀ (t : Tr) (o : Nat), (flat t o).length = t.size
 | .mk b ks, o => by rw [flat, length_append, W8 ks o, Tr.size]; simp
theorem W8 : ∀ (ks : List Tr) (o : Nat), (D5 ks o).length = F8 ks
 | [], o => rfl
 | t :: r, o => by rw [D5, length_append, E7 t o, W8 r _, F8]
end
theorem a5P {e : List Nd} {i : Nat} : ∀ {l : List Int} {ts : List Tr}, I6 e i l ts → l.length = ts.length
 | [], [], _ => rfl
 | k :: r, t :: ts, ⟨_, _, _, h⟩ => by simp [a5P h]
 | [], _ :: _, h => by simp [I6] at h
 | _ :: _, [], h => by simp [I6] at h
theorem b9f (b : Nd) : ∀ (l m : List Int), l.length = m.length → aim (aim b l) m = aim b m
 | [], [], _ => rfl
 | [a], [x], _ => rfl
 | [a, b'], [x, y], _ => by
   by_cases h : b.1 = 28
   · simp [aim, h]
   · simp [aim, h]
 | a :: b' :: c :: r, x :: y :: z :: s, _ => rfl
 | [], _ :: _, h => by simp at h
 | [_], [], h => by simp at h
 | [_], _ :: _ :: _, h => by simp at h
 | [_, _], [], h => by simp at h
 | [_, _], [_], h => by simp at h
 | [_, _], _ :: _ :: _ :: _, h => by simp at h
 | _ :: _ :: _ :: _, [], h => by simp at h
 | _ :: _ :: _ :: _, [_], h => by simp at h
 | _ :: _ :: _ :: _, [_, _], h => by simp at h
theorem b5P (b : Nd) (l : List Int) : (aim b l).1 = b.1 := by
 match l with
 | [] => rfl
 | [a] => rfl
 | [a, c] => by_cases h : b.1 = 28 <;> simp [aim, h]
 | _ :: _ :: _ :: _ => rfl
theorem b0t (b : Nd) (l : List Int) : (aim b l).2.2.2.2 = b.2.2.2.2 := by
 match l with
 | [] => rfl
 | [a] => rfl
 | [a, c] => by_cases h : b.1 = 28 <;> simp [aim, h]
 | _ :: _ :: _ :: _ => rfl
theorem a4d (b : Nd) (l : List Int) : blank (aim b l) = blank b := by
 simp only [blank, b5P, b0t]
theorem b3H {e : List Nd} (hM : MayP e) : ∀ (m i : Nat), i < m → i < e.length → ∃ t, Emb e i t
 | 0, i, h, _ => by omega
 | m + 1, i, h, hi => by
   have hni := R8 hi
   have hal := hM.ahead i _ hni
   have hno := hM.node i _ hni
   have each : ∀ l : List Int, (∀ k ∈ l, 0 ≤ k ∧ k < i) → ∃ ts, I6 e i l ts := by
    intro l
    induction l with
    | nil => exact fun _ => ⟨[], trivial⟩
    | cons k l ih =>
      intro hl
      obtain ⟨ts, hts⟩ := ih fun q hq => hl q (List.mem_cons_of_mem _ hq)
      have hk := hl k List.mem_cons_self
      obtain ⟨t, ht⟩ := b3H hM m k.toNat (by omega) (by omega)
      exact ⟨t :: ts, hk.1, hk.2, ht, hts⟩
   obtain ⟨ts, hts⟩ := each _ hal
   have := (of_decide_eq_true hno).2.2.1
   exact ⟨.mk (blank (e.getD i nd0)) ts, _, hni, rfl, this, hts⟩
mutual
theorem a9M (e : List Nd) : ∀ (t : Tr) (f i : Nat) (o : List Nd), Emb e i t → i < f → ord e f (i : Nat) o = o ++ flat t o.length
 | .mk b ks, 0, i, o, _, h => by omega
 | .mk b ks, f + 1, i, o, ⟨n, hn, hb, hna, hks⟩, h => by
   have hil : i < e.length := by rw [nth_getElem?] at hn; exact (List.getElem?_eq_some_iff.1 hn).1
   have hg : e.getD i nd0 = n := by have := R8 hil; rw [hn] at this; exact (Option.some.inj this).symm
   rw [ord, Int.toNat_natCast, hg, flat]
   have := b1d e ks f i (kids n) o [] hks (by omega)
   rw [this]
   simp only [List.nil_append, List.append_assoc]
   congr 2
   have hl := a5P hks
   have e1 : aim n (roots ks o.length) = aim b (roots ks o.length) := by
    conv => lhs; rw [hna]
    exact b9f b _ _ (by rw [a1R, hl])
   rw [e1]
theorem b1d (e : List Nd) : ∀ (ts : List Tr) (f i : Nat) (l : List Int) (o : List Nd) (q : List Int), I6 e i l ts → i ≤ f → a0F (ord e f) l o q = (o ++ D5 ts o.length, q ++ roots ts o.length)
 | [], f, i, l, o, q, h, hf => by
   cases l with
   | nil => simp [a0F, D5, roots]
   | cons k l => simp [I6] at h
 | t :: ts, f, i, l, o, q, h, hf => by
   cases l with
   | nil => simp [I6] at h
   | cons k l =>
     obtain ⟨h1, h2, h3, h4⟩ := h
     have hk : ((k.toNat : Nat) : Int) = k := by omega
     have ho := a9M e t f k.toNat o h3 (by omega)
     rw [hk] at ho
     rw [a0F, ho, b1d e ts f i l _ _ h4 hf]
     have hsz := t.size_pos
     have hl : (o ++ flat t o.length).length = o.length + t.size := by rw [length_append, E7]
     rw [hl, D5, roots]
     simp only [List.append_assoc, List.singleton_append]
     congr 3
     omega
end
theorem b5x {e : List Nd} {i : Nat} {t : Tr} (hM : F9 e = true) (hi : i < e.length) (h : Emb e i t) : b0g e (i : Nat) = flat t 0 := by
 unfold b0g
 rw [if_pos ⟨by omega, by omega, hM⟩, Int.toNat_natCast, a9M e t (i + 1) i [] h (by omega)]
 simp
def c1D (b : Nd) (m : Nat) : Prop := ∀ l : List Int, l.length = m → (∀ x ∈ l, x ≠ -1) → kids (aim b l) = l
def b0v (b : Nd) (m a : Nat) (op : Int) : Bool := decide (op = 28) == (decide (b.1 = 27) || (decide (b.1 = 28) && (decide (m = 2) && decide (a = 0))))
def a1Z (b : Nd) (m : Nat) : List Tr → Nat → Bool
 | [], _ => true
 | t :: r, a => b0v b m a t.op && a1Z b m r (a + 1)
mutual
def Valid : Tr → Prop
 | .mk b ks => b = blank b ∧ c1D b ks.length ∧ ks.length ≤ 3 ∧ (1 ≤ b.1 ∧ b.1 ≤ 28 ∧ 0 ≤ b.2.2.2.2.1 ∧ b.2.2.2.2.1 ≤ V0 b.1 ∧ (b.2.2.2.2.2 ≠ [] ↔ (b.1 = 3 ∨ b.1 = 27))) ∧ a1Z b ks.length ks 0 = true ∧ a5Y ks
def a5Y : List Tr → Prop
 | [] => True
 | t :: r => Valid t ∧ a5Y r
end
theorem b7m (n : Nd) (h : n = aim (blank n) (kids n)) (hneg : ∀ x ∈ kids n, x ≠ -1) : c1D (blank n) (kids n).length := by
 intro l hl hx
 obtain ⟨op, a, b, c, k, nm⟩ := n
 by_cases h26 : op = 26
 · subst h26
   have hk : kids (26, a, b, c, k, nm) = [a, b, c] := by simp [kids]
   rw [hk] at hl
   match l, hl with
   | [x, y, z], _ => simp [blank, aim, kids]
 by_cases h28 : op = 28
 · subst h28
   by_cases hb : b = -1
   · have hk : kids (28, a, b, c, k, nm) = [a] := by subst hb; simp [kids]
     rw [hk] at hl
     match l, hl with
     | [x], _ => simp [blank, aim, kids]
   · have hk : kids (28, a, b, c, k, nm) = [b, a] := by simp [kids, hb]
     rw [hk] at hl
     match l, hl with
     | [x, y], _ =>
       have : x ≠ -1 := hx x (by simp)
       simp [blank, aim, kids, this]
 by_cases h27 : op = 27
 · subst h27
   by_cases ha : a = -1
   · have hk : kids (27, a, b, c, k, nm) = [] := by subst ha; simp [kids]
     rw [hk] at hl
     match l, hl with
     | [], _ => simp [blank, aim, kids]
   · have hk : kids (27, a, b, c, k, nm) = [a] := by simp [kids, ha]
     rw [hk] at hl
     match l, hl with
     | [x], _ =>
       have : x ≠ -1 := hx x (by simp)
       simp [blank, aim, kids, this]
 by_cases h6 : 6 ≤ op ∧ op ≤ 20
 · have hk : kids (op, a, b, c, k, nm) = [a, b] := by
    simp only [kids]; rw [if_neg h26, if_neg (fun h => h28 h.1), if_neg (fun h => h27 h.1), if_pos h6]
   rw [hk] at hl
   match l, hl with
   | [x, y], _ =>
     have ha : aim (blank (op, a, b, c, k, nm)) [x, y] = (op, x, y, -1, k, nm) := by
      show (if op = 28 then ((op, y, x, -1, k, nm) : Nd) else (op, x, y, -1, k, nm)) = _
      rw [if_neg h28]
     rw [ha]
     simp only [kids]
     rw [if_neg h26, if_neg (fun h => h28 h.1), if_neg (fun h => h27 h.1), if_pos h6]
 by_cases h4 : op = 4 ∨ op = 5 ∨ (21 ≤ op ∧ op ≤ 28)
 · have hk : kids (op, a, b, c, k, nm) = [a] := by
    simp only [kids]; rw [if_neg h26, if_neg (fun h => h28 h.1), if_neg (fun h => h27 h.1), if_neg h6, if_pos h4]
   rw [hk] at hl
   match l, hl with
   | [x], _ =>
     show kids (op, x, -1, -1, k, nm) = [x]
     simp only [kids]
     rw [if_neg h26, if_neg (fun h => h28 h.1), if_neg (fun h => h27 h.1), if_neg h6, if_pos h4]
 · have hk : kids (op, a, b, c, k, nm) = [] := by
    simp only [kids]; rw [if_neg h26, if_neg (fun h => h28 h.1), if_neg (fun h => h27 h.1), if_neg h6, if_neg h4]
   rw [hk] at hl
   match l, hl with
   | [], _ =>
     show kids (op, -1, -1, -1, k, nm) = []
     simp only [kids]
     rw [if_neg h26, if_neg (fun h => h28 h.1), if_neg (fun h => h27 h.1), if_neg h6, if_neg h4]
theorem a2A {e : List Nd} {i : Nat} : ∀ {t : Tr}, Emb e i t → i < e.length
 | .mk b ks, ⟨n, hn, _⟩ => by rw [nth_getElem?] at hn; exact (List.getElem?_eq_some_iff.1 hn).1
theorem a3z {e : List Nd} {i : Nat} {n : Nd} (h : nth e i = some n) : a5z e i = n.1 := by
 rw [nth_getElem?] at h
 rw [a5z, List.getD_eq_getElem?_getD, h]; rfl
theorem a2B {e : List Nd} {i : Nat} : ∀ {t : Tr}, Emb e i t → a5z e i = t.op
 | .mk b ks, ⟨n, hn, hb, _⟩ => by rw [a3z hn, Tr.op, hb]; rfl
theorem c5o {e : List Nd} {n b : Nd} {a : Nat} {k : Int} {t : Tr} (hb : b = blank n) (ht : Emb e k.toNat t) : a7P e n a k = b0v b (kids n).length a t.op := by
 unfold a7P b0v
 rw [a2B ht, show b.1 = n.1 by rw [hb]; rfl]
 by_cases h28 : n.1 = 28
 · have := b7l n h28
   by_cases hb' : n.2.2.1 = -1
   · rw [df (show ¬ n.2.2.1 ≠ -1 from fun h => h hb'), df (show ¬ (kids n).length = 2 from fun h => this.1 h hb')]
   · rw [dt (show n.2.2.1 ≠ -1 from hb'), dt (this.2 hb')]
 · rw [df h28]; simp
theorem a9r {e : List Nd} {n b : Nd} {i : Nat} (hb : b = blank n) : ∀ (l : List Int) (ts : List Tr) (a : Nat), I6 e i l ts → O2 e n l a = a1Z b (kids n).length ts a
 | [], [], a, _ => rfl
 | k :: l, t :: ts, a, ⟨_, _, h3, h4⟩ => by rw [O2, a1Z, c5o hb h3, a9r hb l ts (a + 1) h4]
 | [], _ :: _, a, h => by simp [I6] at h
 | _ :: _, [], a, h => by simp [I6] at h
mutual
theorem a9m {e : List Nd} (hM : MayP e) : ∀ (t : Tr) (i : Nat), Emb e i t → Valid t
 | .mk b ks, i, ⟨n, hn, hb, hna, hks⟩ => by
   have hno := of_decide_eq_true (hM.node i n hn)
   have hal := hM.ahead i n hn
   have hl := a5P hks
   have hk3 := O6 n
   have hA := b7m n (by rw [← hb]; exact hna) (fun x hx => by have := hal x hx; omega)
   rw [Valid, ← hl]
   refine ⟨?_, by rw [hb]; exact hA, hk3, ?_, ?_, a7J hM ks i (kids n) hks⟩
   · rw [hb]; rfl
   · rw [hb]; exact ⟨hno.1, hno.2.1, hno.2.2.2.1, hno.2.2.2.2.1, hno.2.2.2.2.2⟩
   · rw [← a9r (e := e) (i := i) hb (kids n) ks 0 hks]; exact hM.args i n hn
theorem a7J {e : List Nd} (hM : MayP e) : ∀ (ts : List Tr) (i : Nat) (l : List Int), I6 e i l ts → a5Y ts
 | [], i, l, _ => trivial
 | t :: ts, i, l, h => by
   cases l with
   | nil => simp [I6] at h
   | cons k l => obtain ⟨_, _, h3, h4⟩ := h; exact ⟨a9m hM t _ h3, a7J hM ts i l h4⟩
end
theorem a3M : ∀ (ks : List Tr) (o : Nat) (x : Int), x ∈ roots ks o → (o : Int) ≤ x ∧ x < o + F8 ks
 | [], o, x, h => by simp [roots] at h
 | t :: r, o, x, h => by
   have hs := t.size_pos
   rw [roots] at h
   rw [F8]
   rcases List.mem_cons.1 h with h | h
   · subst h; omega
   · have := a3M r (o + t.size) x h; omega
mutual
theorem a0R : ∀ (t : Tr) (pre suf : List Nd), Valid t → Emb (pre ++ (flat t pre.length ++ suf)) (pre.length + t.size - 1) t
 | .mk b ks, pre, suf, ⟨h1, h2, h3, h4, h5, h6⟩ => by
   have hr := a1R ks pre.length
   have hk : kids (aim b (roots ks pre.length)) = roots ks pre.length := h2 _ hr fun x hx => by have := a3M ks _ x hx; omega
   have hE := a4l ks pre ([aim b (roots ks pre.length)] ++ suf) (pre.length + F8 ks) h6 (Nat.le_refl _)
   refine ⟨aim b (roots ks pre.length), ?_, ?_, by rw [hk], ?_⟩
   · rw [flat, Tr.size, nth_getElem?, List.getElem?_append_right (by omega), List.append_assoc, List.getElem?_append_right (by rw [W8]; omega), W8]
     rw [show pre.length + (F8 ks + 1) - 1 - pre.length - F8 ks = 0 by omega]; rfl
   · rw [a4d]; exact h1
   · rw [hk, flat, Tr.size, List.append_assoc, show pre.length + (F8 ks + 1) - 1 = pre.length + F8 ks by omega]
     exact hE
theorem a4l : ∀ (ks : List Tr) (pre suf : List Nd) (i : Nat), a5Y ks → pre.length + F8 ks ≤ i → I6 (pre ++ (D5 ks pre.length ++ suf)) i (roots ks pre.length) ks
 | [], pre, suf, i, _, _ => trivial
 | t :: r, pre, suf, i, ⟨h1, h2⟩, hi => by
   have hs := t.size_pos
   rw [F8] at hi
   have h3 := a0R t pre (D5 r (pre.length + t.size) ++ suf) h1
   have h4 := a4l r (pre ++ flat t pre.length) suf i h2 (by rw [length_append, E7]; omega)
   rw [length_append, E7] at h4
   have e1 : (pre ++ flat t pre.length) ++ (D5 r (pre.length + t.size) ++ suf) = pre ++ (D5 (t :: r) pre.length ++ suf) := by rw [D5]; simp
   have e2 : pre ++ (flat t pre.length ++ (D5 r (pre.length + t.size) ++ suf)) = pre ++ (D5 (t :: r) pre.length ++ suf) := by rw [D5]; simp
   rw [e1] at h4
   rw [e2] at h3
   refine ⟨by omega, by omega, ?_, h4⟩
   rw [Int.toNat_natCast]
   exact h3
end
theorem a8w : ∀ (suf : List Nd) (acc : List Int), (L4 suf acc).take acc.length = acc
 | [], acc => by simp [L4]
 | n :: r, acc => by
   have := a8w r (acc ++ [n6 acc (kids n) 0 + 1])
   rw [L4]
   have h2 := congrArg (List.take acc.length) this
   rw [List.take_take] at h2
   rw [show min acc.length (acc ++ [n6 acc (kids n) 0 + 1]).length = acc.length by simp] at h2
   rw [h2]; simp
theorem b0C : ∀ (suf : List Nd) (acc : List Int) (j : Nat) (n : Nd), nth suf j = some n → (L4 suf acc).getD (acc.length + j) 0 = n6 ((L4 suf acc).take (acc.length + j)) (kids n) 0 + 1
 | [], acc, j, n, h => by simp [nth] at h
 | m :: r, acc, 0, n, h => by
   simp only [nth, Option.some.injEq] at h
   subst h
   rw [L4]
   have ht := a8w r (acc ++ [n6 acc (kids m) 0 + 1])
   have hl : (acc ++ [n6 acc (kids m) 0 + 1]).length = acc.length + 1 := by simp
   rw [hl] at ht
   have h1 : (L4 r (acc ++ [n6 acc (kids m) 0 + 1])).take acc.length = acc := by
    have h2 := congrArg (List.take acc.length) ht
    rw [List.take_take] at h2
    rw [show min acc.length (acc.length + 1) = acc.length by omega] at h2
    rw [h2]; simp
   have h3 : (L4 r (acc ++ [n6 acc (kids m) 0 + 1]))[acc.length]? = some (n6 acc (kids m) 0 + 1) := by
    have h4 := congrArg (fun l => l[acc.length]?) ht
    simp only [List.getElem?_take] at h4
    rw [if_pos (by omega)] at h4
    rw [h4]; simp
   rw [Nat.add_zero, h1, List.getD_eq_getElem?_getD, h3]; rfl
 | m :: r, acc, j + 1, n, h => by
   have ih := b0C r (acc ++ [n6 acc (kids m) 0 + 1]) j n (by simpa [nth] using h)
   have hl : (acc ++ [n6 acc (kids m) 0 + 1]).length + j = acc.length + (j + 1) := by simp; omega
   rw [hl] at ih
   rw [L4]; exact ih
mutual
theorem b3j {e : List Nd} : ∀ (t : Tr) (i : Nat), Emb e i t → (L4 e []).getD i 0 = dep t
 | .mk b ks, i, ⟨n, hn, hb, hna, hks⟩ => by
   have := b0C e [] i n hn
   rw [length_nil, Nat.zero_add] at this
   have hil : i < e.length := by rw [nth_getElem?] at hn; exact (List.getElem?_eq_some_iff.1 hn).1
   rw [this, dep, b0D ks i (kids n) 0 hks hil]
theorem b0D {e : List Nd} : ∀ (ts : List Tr) (i : Nat) (l : List Int) (m : Int), I6 e i l ts → i < e.length → n6 ((L4 e []).take i) l m = b4L ts m
 | [], i, l, m, h, hi => by
   cases l with
   | nil => rfl
   | cons k l => simp [I6] at h
 | t :: ts, i, l, m, h, hi => by
   cases l with
   | nil => simp [I6] at h
   | cons k l =>
     obtain ⟨h1, h2, h3, h4⟩ := h
     have hlen : (L4 e []).length = e.length := by rw [a0Q]; simp
     have hk : k < ((L4 e []).take i).length := by rw [List.length_take, hlen]; omega
     have hg : ((L4 e []).take i).getD k.toNat 0 = dep t := by
      rw [← b3j t k.toNat h3, List.getD_eq_getElem?_getD, List.getD_eq_getElem?_getD, List.getElem?_take, if_pos (by omega)]
     rw [n6, if_pos ⟨h1, hk⟩, hg, b4L, b0D ts i l _ h4 hi]
end
theorem a4j {e : List Nd} {t : Tr} (h : Emb e (e.length - 1) t) : depth e = dep t := by
 have hl := a2A h
 have hlen : (L4 e []).length = e.length := by rw [a0Q]; simp
 rw [← b3j t _ h, depth, List.getLastD_eq_getLast?, List.getLast?_eq_getElem?, List.getD_eq_getElem?_getD, hlen]
mutual
def wT : Tr → Nat → List Nat
 | .mk b ks, o => wTs ks o ++ (roots ks o).map Int.toNat
def wTs : List Tr → Nat → List Nat
 | [], _ => []
 | t :: r, o => wT t o ++ wTs r (o + t.size)
end
theorem a4D (e : List Nd) : ∀ (a b : List Nd) (i : Nat) (V : List Nat), C0 e (a ++ b) i V = (C0 e a i V).bind fun V' => C0 e b (i + a.length) V'
 | [], b, i, V => rfl
 | n :: a, b, i, V => by
   rw [List.cons_append, C0, C0]
   split
   · rw [a4D e a b]
     have : i + 1 + a.length = i + (n :: a).length := by simp; omega
     rw [this]
   · rfl
theorem b7I {b : Nd} {l : List Int} (h1 : b = blank b) (hA : kids (aim b l) = l) (h4 : 1 ≤ b.1 ∧ b.1 ≤ 28 ∧ 0 ≤ b.2.2.2.2.1 ∧ b.2.2.2.2.1 ≤ V0 b.1 ∧ (b.2.2.2.2.2 ≠ [] ↔ (b.1 = 3 ∨ b.1 = 27))) : a0u (aim b l) = true := by
 unfold a0u
 have hb : ((aim b l).1, (-1 : Int), (-1 : Int), (-1 : Int), (aim b l).2.2.2.2) = b := by
  have := a4d b l
  rw [← h1] at this
  exact this
 rw [hb, hA, b5P, b0t]
 exact dt ⟨h4.1, h4.2.1, rfl, h4.2.2.1, h4.2.2.2.1, h4.2.2.2.2⟩
mutual
theorem a7u : ∀ (t : Tr) (pre suf : List Nd) (V : List Nat), Valid t → C0 (pre ++ (flat t pre.length ++ suf)) (flat t pre.length) pre.length V = some (V ++ wT t pre.length)
 | .mk b ks, pre, suf, V, ⟨h1, h2, h3, h4, h5, h6⟩ => by
   have hr := a1R ks pre.length
   have hk : kids (aim b (roots ks pre.length)) = roots ks pre.length := h2 _ hr fun x hx => by have := a3M ks _ x hx; omega
   have hE := a4l ks pre ([aim b (roots ks pre.length)] ++ suf) (pre.length + F8 ks) h6 (Nat.le_refl _)
   have hS := a5t ks pre ([aim b (roots ks pre.length)] ++ suf) V h6
   have hbl : b = blank (aim b (roots ks pre.length)) := by rw [a4d]; exact h1
   rw [flat, List.append_assoc, a4D, hS, bind_some, W8, C0]
   have hargs := a9r (e := pre ++ (D5 ks pre.length ++ ([aim b (roots ks pre.length)] ++ suf))) hbl (roots ks pre.length) ks 0 hE
   rw [hk, hr] at hargs
   have hr2 : N0 (pre.length + F8 ks) (kids (aim b (roots ks pre.length))) = true := by
    rw [hk]
    refine List.all_eq_true.2 fun x hx => dt ?_
    have := a3M ks _ x hx
    omega
   rw [if_pos ⟨b7I h1 hk h4, hr2, by rw [hk, hargs, h5]⟩]
   rw [hk, C0, wT, List.append_assoc]
theorem a5t : ∀ (ks : List Tr) (pre suf : List Nd) (V : List Nat), a5Y ks → C0 (pre ++ (D5 ks pre.length ++ suf)) (D5 ks pre.length) pre.length V = some (V ++ wTs ks pre.length)
 | [], pre, suf, V, _ => by simp [D5, C0, wTs]
 | t :: r, pre, suf, V, ⟨h1, h2⟩ => by
   have h3 := a7u t pre (D5 r (pre.length + t.size) ++ suf) V h1
   have h4 := a5t r (pre ++ flat t pre.length) suf (V ++ wT t pre.length) h2
   rw [length_append, E7] at h4
   have e1 : (pre ++ flat t pre.length) ++ (D5 r (pre.length + t.size) ++ suf) = pre ++ (D5 (t :: r) pre.length ++ suf) := by rw [D5]; simp
   have e2 : pre ++ (flat t pre.length ++ (D5 r (pre.length + t.size) ++ suf)) = pre ++ (D5 (t :: r) pre.length ++ suf) := by rw [D5]; simp
   rw [e1] at h4
   rw [e2] at h3
   conv => lhs; arg 2; rw [D5]
   rw [a4D, h3, bind_some, E7, h4, wTs, List.append_assoc]
end
mutual
theorem b0B (x : Nat) : ∀ (t : Tr) (o : Nat), (wT t o).count x = if o ≤ x ∧ x + 1 < o + t.size then 1 else 0
 | .mk b ks, o => by
   have := a8u x ks o
   rw [wT, List.count_append, this, Tr.size]
   by_cases h : o ≤ x ∧ x < o + F8 ks
   · rw [if_pos h, if_pos (by omega)]
   · rw [if_neg h, if_neg (by omega)]
theorem a8u (x : Nat) : ∀ (ks : List Tr) (o : Nat), (wTs ks o).count x + ((roots ks o).map Int.toNat).count x = if o ≤ x ∧ x < o + F8 ks then 1 else 0
 | [], o => by rw [if_neg (by rw [F8]; omega)]; rfl
 | t :: r, o => by
   have h1 := b0B x t o
   have h2 := a8u x r (o + t.size)
   have hs := t.size_pos
   rw [wTs, roots, F8, List.count_append, List.map_cons, List.count_cons, Int.toNat_natCast, h1]
   by_cases hx : o + t.size - 1 = x
   · have e : ((o + t.size - 1 == x) = true) := beq_iff_eq.2 hx
     rw [if_pos e, if_neg (by omega), if_pos (by omega)]
     rw [if_neg (by omega)] at h2
     omega
   · have e : ¬ ((o + t.size - 1 == x) = true) := fun h => hx (beq_iff_eq.1 h)
     rw [if_neg e]
     by_cases h3 : o ≤ x ∧ x + 1 < o + t.size
     · rw [if_neg (by omega)] at h2
       rw [if_pos h3, if_pos (by omega)]; omega
     · rw [if_neg h3]
       by_cases h4 : o + t.size ≤ x ∧ x < o + t.size + F8 r
       · rw [if_pos h4] at h2
         rw [if_pos (by omega)]; omega
       · rw [if_neg h4] at h2
         rw [if_neg (by omega)]; omega
end
theorem b7A {t : Tr} (hv : Valid t) : F9 (flat t 0) = (decide (t.size ≤ 5000) && (decide (t.op ≠ 28) && decide (dep t ≤ 40))) := by
 have hs := t.size_pos
 have hlen := E7 t 0
 have hne : flat t 0 ≠ [] := fun h => by rw [h] at hlen; simp at hlen; omega
 have hE := a0R t [] [] hv
 simp only [List.nil_append, List.append_nil, length_nil, Nat.zero_add] at hE
 have hS := a7u t [] [] [] hv
 simp only [List.nil_append, List.append_nil, length_nil] at hS
 have hc := fun x => b0B x t 0
 have hnd : (wT t 0).Nodup := (X7 _).2 fun j => by rw [hc j]; split <;> omega
 have hsc := (Y3 (flat t 0) (flat t 0) 0 [] (wT t 0) (by simp)).2 ⟨hS, hnd⟩
 have hall : ((List.range (t.size - 1)).all fun j => decide (j ∈ wT t 0)) = true := List.all_eq_true.2 fun j hj => by
  have h1 := List.mem_range.1 hj
  have := hc j
  rw [if_pos (by omega)] at this
  exact dt (List.count_pos_iff.1 (by omega))
 have hE' : Emb (flat t 0) ((flat t 0).length - 1) t := by rw [hlen]; exact hE
 unfold F9
 rw [hsc, hlen, dt hne, Bool.true_and, a2B hE, a4j hE']
 simp only [hall, Bool.true_and]
theorem b3R (e : List Nd) (S : Nat → Nat) (hS : ∀ i n, nth e i = some n → S i = 1 + szL (fun k => S k.toNat) (kids n)) : ∀ (suf pre : List Nd) (V V' : List Nat), e = pre ++ suf → C0 e suf pre.length V = some V' → V'.Nodup →
  (∀ x ∈ V, x < pre.length) → a0C S V pre.length = pre.length → a0C S V' e.length = e.length
 | [], pre, V, V', h, hs, hn, hV, hU => by
   cases hs
   rw [h]; simpa using hU
 | n :: suf, pre, V, V', h, hs, hn, hV, hU => by
   rw [C0] at hs
   split at hs
   case isFalse => cases hs
   rename_i hc
   have hpl : (pre ++ [n]).length = pre.length + 1 := by simp
   have hi : nth e pre.length = some n := by rw [h, nth_getElem?]; simp
   obtain ⟨W, rfl⟩ := a1T e suf _ _ _ hs
   have hn1 := (List.nodup_append.1 hn).1
   have hr : ∀ k ∈ kids n, 0 ≤ k ∧ k < pre.length := fun k hk => by simpa using List.all_eq_true.1 hc.2.1 k hk
   have hV' : ∀ x ∈ V ++ (kids n).map Int.toNat, x < pre.length := fun x hx => by
    rcases List.mem_append.1 hx with hx | hx
    · exact hV x hx
    · obtain ⟨k, hk, rfl⟩ := List.mem_map.1 hx
      have := hr k hk; omega
   have hU' := a4a S pre.length (kids n) V hn1 hr
   have hSi := hS _ _ hi
   have hSU : a0C S (V ++ (kids n).map Int.toNat) (pre.length + 1) = pre.length + 1 := by
    rw [a0C, if_neg (fun hm => by have := hV' _ hm; omega)]; omega
   exact b3R e S hS suf (pre ++ [n]) _ _ (by rw [h]; simp) (by rw [hpl]; exact hs) hn (fun x hx => by have := hV' x hx; rw [hpl]; omega) (by rw [hpl]; exact hSU)
theorem a8o (S : Nat → Nat) (V : List Nat) : ∀ i, (∀ j, j < i → j ∈ V) → a0C S V i = 0
 | 0, _ => rfl
 | i + 1, h => by rw [a0C, a8o S V i (fun j hj => h j (by omega)), if_pos (h i (by omega))]
theorem c6x {e : List Nd} {i : Nat} {t : Tr} (h : Emb e i t) (f : Nat) (hf : i < f) : sz e f (i : Int) = t.size := by
 have h1 := a0f (e := e) f (i : Int) []
 rw [a9M e t f i [] h hf] at h1
 simp only [List.nil_append, length_nil, E7, Nat.zero_add] at h1
 exact h1.symm
theorem a7b {e : List Nd} (h : F9 e = true) : ∃ t, Emb e (e.length - 1) t ∧ Valid t ∧ t.size = e.length ∧ t.op ≠ 28 ∧ dep t = depth e ∧ dep t ≤ 40 ∧ t.size ≤ 5000 := by
 have hM := a2i h
 have hpos := List.length_pos_iff.2 hM.ne
 obtain ⟨t, ht⟩ := b3H hM e.length (e.length - 1) (by omega) (by omega)
 have hd := a4j ht
 have hop := a2B ht
 have hsize : t.size = e.length := by
  have h' := h
  simp only [F9, and_eq_true, decide_eq_true_eq] at h'
  obtain ⟨h1, h2, h3, h4⟩ := h'
  split at h4
  · cases h4
  rename_i V hs
  simp only [and_eq_true, decide_eq_true_eq] at h4
  obtain ⟨k1, k2⟩ := (Y3 e e 0 [] V (by simp)).1 hs
  have hlt := a3O e (e.length - 1) e 0 [] V k1 (by simp) (by omega)
  have hU := b3R e (fun i => sz e (i + 1) (i : Int)) (fun i n hn => ?_) e [] [] V rfl k1 k2 (by simp) rfl
  · obtain ⟨m, hm⟩ : ∃ m, e.length = m + 1 := ⟨e.length - 1, by omega⟩
    rw [hm, a0C, a8o _ V m (fun j hj => ?_), if_neg (fun hh => by have := hlt m hh; omega)] at hU
    · have hm1 : e.length - 1 = m := by omega
      rw [hm1] at ht
      have := c6x ht (m + 1) (by omega)
      have hU2 : 0 + sz e (m + 1) (m : Int) = m + 1 := hU
      omega
    · have := List.all_eq_true.1 h4.1 j (List.mem_range.2 (by omega))
      exact of_decide_eq_true this
  · have hil : i < e.length := by rw [nth_getElem?] at hn; exact (List.getElem?_eq_some_iff.1 hn).1
    have hg : e.getD i nd0 = n := by have := R8 hil; rw [hn] at this; exact (Option.some.inj this).symm
    show sz e (i + 1) (i : Int) = _
    rw [sz, Int.toNat_natCast, hg]
    congr 1
    refine a1U fun k hk => ?_
    have := hM.ahead i n hn k hk
    obtain ⟨j, rfl⟩ : ∃ j : Nat, k = j := ⟨k.toNat, by omega⟩
    rw [Int.toNat_natCast]
    exact a5N hM.ahead i j (by omega) (by omega)
 exact ⟨t, ht, a9m hM t _ ht, hsize, by rw [← hop]; exact hM.last, hd.symm, by rw [← hd]; exact hM.deep, by rw [hsize]; exact hM.len⟩
theorem a1O {e : List Nd} {t : Tr} (h : F9 e = true) (ht : Emb e (e.length - 1) t) : norm e = flat t 0 := by
 have hpos := List.length_pos_iff.2 (a2i h).ne
 rw [norm, show ((e.length : Int) - 1) = ((e.length - 1 : Nat) : Int) by omega]
 exact b5x h (by omega) ht
theorem a9L {t : Tr} (hv : Valid t) (hm : F9 (flat t 0) = true) : norm (flat t 0) = flat t 0 := by
 have hE := a0R t [] [] hv
 simp only [List.nil_append, List.append_nil, length_nil, Nat.zero_add] at hE
 exact a1O hm (by rw [E7]; exact hE)
theorem b7J {e : List Nd} (h : F9 e = true) : F9 (norm e) = true ∧ (norm e).length = e.length ∧ depth (norm e) = depth e ∧ norm (norm e) = norm e := by
 obtain ⟨t, h1, h2, h3, h4, h5, h6, h7⟩ := a7b h
 have hn := a1O h h1
 have hm : F9 (flat t 0) = true := by rw [b7A h2, dt h7, dt h4, dt h6]; rfl
 have hE := a0R t [] [] h2
 simp only [List.nil_append, List.append_nil, length_nil, Nat.zero_add] at hE
 refine ⟨by rw [hn]; exact hm, by rw [hn, E7, h3], ?_, by rw [hn]; exact a9L h2 hm⟩
 rw [hn, a4j (t := t) (by rw [E7]; exact hE), h5]
theorem a3x {e : List Nd} : (norm e).length ≤ 5001 := b8S _
theorem d0z {e : List Nd} (h : F9 e = true) : ∃ V, C0 e e 0 [] = some V ∧ ∀ x, V.count x = if x + 1 < e.length then 1 else 0 := by
 simp only [F9, and_eq_true, decide_eq_true_eq] at h
 obtain ⟨h1, h2, h3, h4⟩ := h
 split at h4
 · cases h4
 rename_i V hs
 simp only [and_eq_true, decide_eq_true_eq] at h4
 obtain ⟨k1, k2⟩ := (Y3 e e 0 [] V (by simp)).1 hs
 have hpos := List.length_pos_iff.2 h1
 have hlt := a3O e (e.length - 1) e 0 [] V k1 (by simp) (by omega)
 refine ⟨V, k1, fun x => ?_⟩
 by_cases hx : x + 1 < e.length
 · rw [if_pos hx]
   have hm : x ∈ V := of_decide_eq_true (List.all_eq_true.1 h4.1 x (List.mem_range.2 (by omega)))
   have := (X7 V).1 k2 x
   have := List.count_pos_iff.2 hm
   omega
 · rw [if_neg hx]
   exact List.count_eq_zero.2 fun hm => by have := hlt x hm; omega
theorem b9S : ∀ t : Tr, 1 ≤ dep t
 | .mk b ks => by
   rw [dep]
   have : ∀ (ks : List Tr) (m : Int), 0 ≤ m → 0 ≤ b4L ks m := by
    intro ks
    induction ks with
    | nil => intro m h; exact h
    | cons t r ih =>
      intro m h
      rw [b4L]
      exact ih _ (by split <;> omega)
   have := this ks 0 (by omega)
   omega
theorem a9g (e : List Nd) : ∀ (suf pre : List Nd) (V V' : List Nat), e = pre ++ suf → C0 e suf pre.length V = some V' → ∀ x ∈ V', x ∈ V ∨ ∃ i n k, nth e i = some n ∧ k ∈ kids n ∧ x = k.toNat
 | [], pre, V, V', h, hs, x, hx => by cases hs; exact .inl hx
 | n :: suf, pre, V, V', h, hs, x, hx => by
   rw [C0] at hs
   split at hs
   case isFalse => cases hs
   have hpl : (pre ++ [n]).length = pre.length + 1 := by simp
   rcases a9g e suf (pre ++ [n]) _ _ (by rw [h]; simp) (by rw [hpl]; exact hs) x hx with hx | hx
   · rcases List.mem_append.1 hx with hx | hx
     · exact .inl hx
     · obtain ⟨k, hk, rfl⟩ := List.mem_map.1 hx
       exact .inr ⟨pre.length, n, k, by rw [h, nth_getElem?]; simp, hk, rfl⟩
   · exact .inr hx
theorem b7C {e : List Nd} (h : F9 e = true) (j : Nat) (hj : j + 1 < e.length) : ∃ i n k, nth e i = some n ∧ k ∈ kids n ∧ k.toNat = j := by
 obtain ⟨V, hs, hc⟩ := d0z h
 have hm : j ∈ V := List.count_pos_iff.1 (by rw [hc, if_pos hj]; omega)
 rcases a9g e e [] [] V rfl hs j hm with hx | ⟨i, n, k, h1, h2, h3⟩
 · cases hx
 · exact ⟨i, n, k, h1, h2, h3.symm⟩
theorem b7B {e : List Nd} (h : F9 e = true) (P : Nat → Prop) (hP : ∀ i n k, nth e i = some n → k ∈ kids n → P k.toNat → P i) : ∀ (m j : Nat), j + m = e.length - 1 → j < e.length → P j → P (e.length - 1)
 | 0, j, hm, hj, hp => by rw [← hm]; exact hp
 | m + 1, j, hm, hj, hp => by
   obtain ⟨i, n, k, h1, h2, h3⟩ := b7C h j (by omega)
   have hil : i < e.length := by rw [nth_getElem?] at h1; exact (List.getElem?_eq_some_iff.1 h1).1
   have := (a2i h).ahead i n h1 k h2
   have hji : j < i := by omega
   exact b7B h P hP (e.length - 1 - i) i (by omega) hil (hP i n k h1 h2 (by rw [h3]; exact hp))
termination_by m => m
decreasing_by omega
mutual
theorem a9B {e : List Nd} : ∀ (t u : Tr) (i : Nat), Emb e i t → Emb e i u → t = u
 | .mk b ks, .mk c ls, i, ⟨n, h1, h2, h3, h4⟩, ⟨m, g1, g2, g3, g4⟩ => by
   rw [h1] at g1
   obtain rfl := Option.some.inj g1
   rw [h2, g2, b0G ks ls i _ h4 g4]
theorem b0G {e : List Nd} : ∀ (ts us : List Tr) (i : Nat) (l : List Int), I6 e i l ts → I6 e i l us → ts = us
 | [], [], i, l, _, _ => rfl
 | t :: ts, u :: us, i, k :: l, ⟨_, _, h3, h4⟩, ⟨_, _, g3, g4⟩ => by
   rw [a9B t u _ h3 g3, b0G ts us i l h4 g4]
 | [], _ :: _, i, [], h, g => by simp [I6] at g
 | [], _ :: _, i, _ :: _, h, g => by simp [I6] at h
 | _ :: _, [], i, [], h, g => by simp [I6] at h
 | _ :: _, [], i, _ :: _, h, g => by simp [I6] at g
 | _ :: _, _ :: _, i, [], h, g => by simp [I6] at h
end
end Go.Proofs.YtlobhcgbmpcdlaaGreatDoor.R
end
