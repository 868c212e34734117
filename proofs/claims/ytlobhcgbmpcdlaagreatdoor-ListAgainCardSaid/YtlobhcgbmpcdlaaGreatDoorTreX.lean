import Derived.Test.YtlobhcgbmpcdlaaGreatDoorResRun
import Derived.Test.YtlobhcgbmpcdlaaGreatDoorBmF
open Option (bind_some)
open List (length_append length_cons length_nil)
open Bool (and_eq_true)
section
namespace Go.Proofs.YtlobhcgbmpcdlaaGreatDoor.R
open Go Go.Bm Go.Proofs
set_option linter.unusedVariables false
set_option linter.unusedSimpArgs false
set_option maxRecDepth 4000
theorem b0Y (n : Nd) : c94 T.rf n = some (kids n) := d6m (by
 obtain ⟨op, a, b, c, k, nm⟩ := n
 by_cases h1 : op = 26
 · subst h1; rfl
 by_cases h2 : op = 28
 · subst h2
   by_cases hb : b = -1
   · subst hb; rfl
   · simp [r94, kids, hb, nbf hb]
 by_cases h3 : op = 27
 · subst h3
   by_cases ha : a = -1
   · subst ha; rfl
   · simp [r94, kids, ha, nbf ha, bf ha]
 by_cases h4 : op = 4
 · subst h4; rfl
 by_cases h5 : op = 5
 · subst h5; rfl
 simp only [r94, kids, bf h1, bf h2, bf h3, bf h4, bf h5, cond_false, if_neg h1, if_neg (show ¬ (op = 28 ∧ b ≠ -1) from fun h => h2 h.1), if_neg (show ¬ (op = 27 ∧ a = -1) from fun h => h3 h.1)]
 by_cases h6 : 6 ≤ op
 · by_cases h7 : op ≤ 20
   · simp [h6, h7]
   · by_cases h8 : op ≤ 25
     · simp only [dt h6, df h7, cond_true, cond_false, dt (show op ≥ 21 by omega), dt (show op ≤ 28 by omega), if_neg (show ¬ (6 ≤ op ∧ op ≤ 20) by omega), if_pos (show op = 4 ∨ op = 5 ∨ (21 ≤ op ∧ op ≤ 28) by omega)]
     · simp only [dt h6, df h7, cond_true, cond_false, dt (show op ≥ 21 by omega), df (show ¬ op ≤ 28 by omega), if_neg (show ¬ (6 ≤ op ∧ op ≤ 20) by omega), if_neg (show ¬ (op = 4 ∨ op = 5 ∨ (21 ≤ op ∧ op ≤ 28)) by omega)]
 · simp only [df (show ¬ op ≥ 6 by omega), cond_false, df (show ¬ op ≥ 21 by omega), if_neg (show ¬ (6 ≤ op ∧ op ≤ 20) by omega), if_neg (show ¬ (op = 4 ∨ op = 5 ∨ (21 ≤ op ∧ op ≤ 28)) by omega)])
theorem a8A (n : Nd) : c49 T.rf n = some (kids n) := d5J (by
 obtain ⟨op, a, b, c, k, nm⟩ := n
 by_cases h1 : op = 26
 · subst h1; rfl
 by_cases h2 : op = 28
 · subst h2
   by_cases hb : b = -1
   · subst hb; rfl
   · simp [r49, kids, hb, nbf hb]
 by_cases h3 : op = 27
 · subst h3
   by_cases ha : a = -1
   · subst ha; rfl
   · simp [r49, kids, ha, nbf ha, bf ha]
 by_cases h4 : op = 4
 · subst h4; rfl
 by_cases h5 : op = 5
 · subst h5; rfl
 simp only [r49, kids, bf h1, bf h2, bf h3, bf h4, bf h5, cond_false, if_neg h1, if_neg (show ¬ (op = 28 ∧ b ≠ -1) from fun h => h2 h.1), if_neg (show ¬ (op = 27 ∧ a = -1) from fun h => h3 h.1)]
 by_cases h6 : 6 ≤ op
 · by_cases h7 : op ≤ 20
   · simp [h6, h7, bf (show op ≠ 21 by omega), bf (show op ≠ 22 by omega), bf (show op ≠ 23 by omega), bf (show op ≠ 24 by omega), bf (show op ≠ 25 by omega)]
   · by_cases h8 : op ≤ 25
     · have : op = 21 ∨ op = 22 ∨ op = 23 ∨ op = 24 ∨ op = 25 := by omega
       rcases this with rfl | rfl | rfl | rfl | rfl <;> rfl
     · simp only [dt h6, df h7, bf (show op ≠ 21 by omega), bf (show op ≠ 22 by omega), bf (show op ≠ 23 by omega), bf (show op ≠ 24 by omega), bf (show op ≠ 25 by omega), cond_true, cond_false, if_neg (show ¬ (6 ≤ op ∧ op ≤ 20) by omega), if_neg (show ¬ (op = 4 ∨ op = 5 ∨ (21 ≤ op ∧ op ≤ 28)) by omega)]
 · simp only [df (show ¬ op ≥ 6 by omega), bf (show op ≠ 21 by omega), bf (show op ≠ 22 by omega), bf (show op ≠ 23 by omega), bf (show op ≠ 24 by omega), bf (show op ≠ 25 by omega), cond_false, if_neg (show ¬ (6 ≤ op ∧ op ≤ 20) by omega), if_neg (show ¬ (op = 4 ∨ op = 5 ∨ (21 ≤ op ∧ op ≤ 28)) by omega)])
theorem c2g (n : Nd) (l : List Int) : c95 T.rf n l = some (aim n l) := d6n (by
 match l with
 | [] => simp [r95, aim]
 | [a] => simp [r95, aim, nth, a2N, show inb 0 1 = true from rfl]
 | [a, b] =>
   by_cases h : n.1 = 28
   · simp [r95, aim, nth, h, show inb 0 2 = true from rfl, show inb 1 2 = true from rfl]
   · have e := bf h
     simp [r95, aim, nth, h, e, show inb 0 2 = true from rfl, show inb 1 2 = true from rfl]
 | a :: b :: c :: r =>
   have h0 : inb 0 (a :: b :: c :: r).length = true := D2 (by omega) (by simp; omega)
   have h1 : inb 1 (a :: b :: c :: r).length = true := D2 (by omega) (by simp; omega)
   have h2 : inb 2 (a :: b :: c :: r).length = true := D2 (by omega) (by simp; omega)
   have g0 : decide ((0 : Int) < ((a :: b :: c :: r).length : Nat)) = true := dt (by simp; omega)
   have g1 : decide ((1 : Int) < ((a :: b :: c :: r).length : Nat)) = true := dt (by simp; omega)
   have g2 : decide ((2 : Int) < ((a :: b :: c :: r).length : Nat)) = true := dt (by simp; omega)
   have g : ((((a :: b :: c :: r).length : Nat) : Int) == 2) = false := bf (by simp; omega)
   simp only [r95, aim, h0, h1, h2, g0, g1, g2, g, cond_true, cond_false, nth, bind_some]
   cases (n.1 == 28) <;> rfl)
theorem c4u (n : Nd) (l : List Int) : c52 T.rf n l = some (aim n l) := d5M (by
 match l with
 | [] => simp [r52, aim]
 | [a] => simp [r52, aim, nth, a2N, show inb 0 1 = true from rfl]
 | [a, b] =>
   by_cases h : n.1 = 28
   · simp [r52, aim, nth, h, show inb 0 2 = true from rfl, show inb 1 2 = true from rfl]
   · have e := bf h
     simp [r52, aim, nth, h, e, show inb 0 2 = true from rfl, show inb 1 2 = true from rfl]
 | a :: b :: c :: r =>
   have h0 : inb 0 (a :: b :: c :: r).length = true := D2 (by omega) (by simp; omega)
   have h1 : inb 1 (a :: b :: c :: r).length = true := D2 (by omega) (by simp; omega)
   have h2 : inb 2 (a :: b :: c :: r).length = true := D2 (by omega) (by simp; omega)
   have g0 : decide ((((a :: b :: c :: r).length : Nat) : Int) > 0) = true := dt (by simp; omega)
   have g1 : decide ((((a :: b :: c :: r).length : Nat) : Int) > 1) = true := dt (by simp; omega)
   have g2 : decide ((((a :: b :: c :: r).length : Nat) : Int) > 2) = true := dt (by simp; omega)
   have g : ((((a :: b :: c :: r).length : Nat) : Int) == 2) = false := bf (by simp; omega)
   simp only [r52, aim, h0, h1, h2, g0, g1, g2, g, cond_true, cond_false, nth, bind_some]
   cases (n.1 == 28) <;> rfl)
theorem a9U (n : Nd) : c93 T.rf n = some (a3t n) := d6l (by
 have hk6 : ∀ m : Nd, ∀ k : Int, k77 T.rb n m k = some (n, m, decide (1 ≤ n.1 ∧ n.1 ≤ 28 ∧ n = m ∧ 0 ≤ n.2.2.2.2.1 ∧ n.2.2.2.2.1 ≤ k ∧ (n.2.2.2.2.2 ≠ [] ↔ (n.1 = 3 ∨ n.1 = 27)))) := fun m k => d5v (by
  obtain ⟨p1, p2, p3, p4, p5, p6⟩ := n
  obtain ⟨q1, q2, q3, q4, q5, q6⟩ := m
  have hX : ∀ X : Prop, ∀ _ : Decidable X, ¬ X → some ((p1, p2, p3, p4, p5, p6), (q1, q2, q3, q4, q5, q6), false) = some ((p1, p2, p3, p4, p5, p6), (q1, q2, q3, q4, q5, q6), decide X) := fun X _ h => by rw [df h]
  have e : ∀ c : Bool, ((!(p6 == ([] : List UInt8))) == c) = decide (p6 ≠ [] ↔ c = true) := fun c => by cases p6 <;> cases c <;> simp
  simp only [b77, cond_eq_ite, decide_eq_true_eq, beq_iff_eq, and_eq_true, e]
  repeat' split
  all_goals first
   | (refine hX _ _ ?_; simp only [Prod.mk.injEq]; omega)
   | (refine hX _ _ ?_; simp only [Prod.mk.injEq]; rintro ⟨_, _, hh, _⟩; contradiction)
   | (simp only [Option.some.injEq, Prod.mk.injEq, true_and, decide_eq_decide]; constructor
      · intro h; exact ⟨by omega, by omega, by assumption, by omega, by omega, by rw [h]; first | omega | simp [*]⟩
      · rintro ⟨_, _, _, _, _, h⟩; rw [h]; first | omega | simp [*]))
 have hk5 : ∀ k : Int, k76 T.rb n k = some (n, decide (1 ≤ n.1 ∧ n.1 ≤ 28 ∧ n = aim (n.1, -1, -1, -1, n.2.2.2.2) (kids n) ∧ 0 ≤ n.2.2.2.2.1 ∧ n.2.2.2.2.1 ≤ k ∧ (n.2.2.2.2.2 ≠ [] ↔ (n.1 = 3 ∨ n.1 = 27)))) := fun k => d5u (by
  simp only [b76, b0Y, c2g, hk6, bind_some])
 simp only [r93, hk5, bind_some, a3t, F2]
 by_cases h1 : n.1 = 1
 · simp [h1]
 by_cases h2 : n.1 = 2
 · simp [h2]
 by_cases h3 : n.1 = 25
 · simp [h3]
 simp only [bf h1, bf h2, bf h3, cond_false, if_neg h1, if_neg h2, if_neg h3])
theorem c1e (n : Nd) (by_ : Int) : c51 T.rf n by_ = some (mv by_ n) := d5L (by
 obtain ⟨op, a, b, c, n, nm⟩ := n
 simp only [r51, mv, shift]
 by_cases ha : 0 ≤ a <;> by_cases hb : 0 ≤ b <;> by_cases hc : 0 ≤ c <;> simp only [ge_iff_le, ha, hb, hc, decide_true, decide_false, cond_true, cond_false, if_true, if_false])
theorem a2n (by_ : Int) : ∀ (suf pre out : List Nd), out.length + suf.length ≤ 274877906944 → pre.length + suf.length ≤ 274877906944 →
  k22 T.rb out (pre ++ suf) by_ (pre.length : Nat) = some (out ++ suf.map (mv by_))
 | [], pre, out, h, h2 => d1I (by
   simp only [b22, E4, D7, List.append_nil, cond_false, List.map_nil, List.append_nil])
 | x :: suf, pre, out, h, h2 => d1I (by
   simp only [length_cons] at h h2
   have ih := a2n by_ suf (pre ++ [x]) (out ++ [mv by_ x]) (by simp; omega) (by simp; omega)
   simp only [List.append_assoc, List.singleton_append] at ih
   simp only [b22, s4, m5, m6, cond_true, bind_some, c1e, m8 (show out.length + 1 ≤ 274877906944 by omega), Bool.and_true, s3 pre x (by omega)]
   rw [List.map_cons]
   exact ih)
theorem b1w {out e : List Nd} (h : out.length + e.length ≤ 274877906944) : c50 T.rf out e = some (out ++ e.map (mv out.length)) := d5K (by
 have := a2n out.length e [] out h (by simp; omega)
 simp only [List.nil_append, length_nil] at this
 simp only [r50]
 rw [show (0 : Int) = ((0 : Nat) : Int) from rfl, this]; rfl)
theorem b5n (op n : Int) (nm : List UInt8) : c48 T.rf op n nm = some (op, -1, -1, -1, n, nm) := d5I rfl
def T1 (op : Int) : List (List Nd) → List Nd → List Int → Int → Option (List Nd × List Int × Int)
 | [], o, ks, l => some (o, ks, l)
 | p :: r, o, ks, l => if p = [] then none else
   let o1 := o ++ p.map (mv o.length)
   if op = 27 then T1 op r (o1 ++ [(28, (o1.length : Int) - 1, l, -1, 0, [])]) (ks ++ [(o1.length : Int) - 1]) o1.length
   else T1 op r o1 (ks ++ [(o1.length : Int) - 1]) l
def total : List (List Nd) → Nat
 | [] => 0
 | p :: r => p.length + 1 + total r
def b2y (op : Int) (ks : List Int) (l : Int) : List Int := if op = 27 then (if l = -1 then [] else [l]) else ks
theorem b1b {p : List Nd} (h : p ≠ []) : (((p.length : Nat) : Int) == 0) = false := bf (by
 have := List.length_pos_iff.2 h; omega)
theorem a1p (op : Int) : ∀ (suf pre : List (List Nd)) (o : List Nd) (ks : List Int) (l : Int), o.length + total suf ≤ 274877906944 → pre.length + suf.length ≤ 274877906944 → ks.length + suf.length ≤ 274877906944 →
  k23 T.rb o ks op (pre ++ suf) l (pre.length : Nat) = some (match T1 op suf o ks l with
   | none => .inl []
   | some (o', ks', l') => .inr (o', ks', l'))
 | [], pre, o, ks, l, h, h2, h3 => d1J (by
   simp only [b23, E4, D7, List.append_nil, cond_false, T1])
 | p :: suf, pre, o, ks, l, h, h2, h3 => d1J (by
   simp only [total, length_cons] at h h2 h3
   simp only [b23, s4, m5, m6, cond_true, bind_some, T1]
   by_cases hp : p = []
   · subst hp; rfl
   have hp' := List.length_pos_iff.2 hp
   rw [b1b hp, cond_false, if_neg hp, b1w (by omega), bind_some]
   have hol : (o ++ p.map (mv o.length)).length = o.length + p.length := by simp
   have hw : IntKind.i64.wrap (((o ++ p.map (mv o.length)).length : Int) - 1) = ((o ++ p.map (mv o.length)).length : Int) - 1 := wr (by omega)
   rw [m8 (show ks.length + 1 ≤ 274877906944 by omega), hw]
   simp only [Bool.and_true, cond_true]
   by_cases h27 : op = 27
   · subst h27
     have ih := a1p 27 suf (pre ++ [p]) ((o ++ p.map (mv o.length)) ++ [(28, ((o ++ p.map (mv o.length)).length : Int) - 1, l, -1, 0, [])]) (ks ++ [((o ++ p.map (mv o.length)).length : Int) - 1]) (o ++ p.map (mv o.length)).length
      (by simp only [length_append, List.length_map, List.length_singleton]; omega) (by simp only [length_append, List.length_singleton]; omega) (by simp only [length_append, List.length_singleton]; omega)
     simp only [List.append_assoc, List.singleton_append] at ih
     simp only [if_true, Int.reduceBEq, cond_true, b5n, bind_some, m8 (show (o ++ p.map (mv o.length)).length + 1 ≤ 274877906944 by omega), Bool.and_true, s3 pre p (by omega)]
     simpa only [List.append_assoc] using ih
   · have ih := a1p op suf (pre ++ [p]) (o ++ p.map (mv o.length)) (ks ++ [((o ++ p.map (mv o.length)).length : Int) - 1]) l
      (by omega) (by simp only [length_append, List.length_singleton]; omega) (by simp only [length_append, List.length_singleton]; omega)
     simp only [List.append_assoc, List.singleton_append] at ih
     simp only [if_neg h27, bf h27, cond_false, s3 pre p (by omega)]
     simpa only [List.append_assoc] using ih)
def join (op n : Int) (nm : List UInt8) (parts : List (List Nd)) : List Nd :=
 if op = 28 then [] else if op ≠ 27 ∧ (kids (op, -1, -1, -1, n, nm)).length ≠ parts.length then [] else
 match T1 op parts [] [] (-1) with
 | none => []
 | some (o, ks, l) => o ++ [aim (op, -1, -1, -1, n, nm) (b2y op ks l)]
theorem a2O (op : Int) : ∀ (ps : List (List Nd)) (o : List Nd) (ks : List Int) (l : Int) (o' : List Nd) (ks' : List Int) (l' : Int), T1 op ps o ks l = some (o', ks', l') → o'.length ≤ o.length + total ps
 | [], o, ks, l, o', ks', l', h => by simp only [T1] at h; cases h; simp [total]
 | p :: r, o, ks, l, o', ks', l', h => by
   simp only [T1] at h
   split at h
   · cases h
   split at h
   · have := a2O op r _ _ _ _ _ _ h
     simp only [length_append, List.length_map, List.length_singleton, total] at this ⊢; omega
   · have := a2O op r _ _ _ _ _ _ h
     simp only [length_append, List.length_map, total] at this ⊢; omega
theorem R5 {op n : Int} {nm : List UInt8} {ps : List (List Nd)} (h : total ps < 274877906944) (h2 : ps.length < 274877906944) : c47 T.rf op n nm ps = some (join op n nm ps) := d5H (by
 have hl := a1p op ps [] [] [] (-1) (by simpa using by omega) (by simpa using by omega) (by simpa using by omega)
 simp only [List.nil_append, length_nil] at hl
 simp only [r47, join, b5n, a8A, bind_some]
 by_cases h28 : op = 28
 · rw [bt h28, cond_true, if_pos h28]
 rw [bf h28, cond_false, if_neg h28, show (0 : Int) = ((0 : Nat) : Int) from rfl, hl]
 by_cases h27 : op = 27
 · subst h27
   rw [nbt rfl, cond_false, if_neg (by intro hh; exact hh.1 rfl)]
   cases hj : T1 27 ps [] [] (-1) with
   | none => rfl
   | some x =>
     obtain ⟨o, ks, l⟩ := x
     have := a2O 27 ps _ _ _ _ _ _ hj
     simp only [length_nil, Nat.zero_add] at this
     simp only [bind_some, Int.reduceBEq, m8 (show o.length + 1 ≤ 274877906944 by omega), Bool.and_true, cond_true, b2y, if_true]
     by_cases hl1 : l = -1
     · subst hl1; rfl
     · rw [if_neg hl1]; rfl
 · rw [nbf h27, cond_true]
   by_cases hn : (kids (op, -1, -1, -1, n, nm)).length = ps.length
   · rw [nbt (by rw [hn]), cond_false, if_neg (by intro hh; exact hh.2 hn)]
     cases hj : T1 op ps [] [] (-1) with
     | none => rfl
     | some x =>
       obtain ⟨o, ks, l⟩ := x
       have := a2O op ps _ _ _ _ _ _ hj
       simp only [length_nil, Nat.zero_add] at this
       simp only [bind_some, bf h27, cond_false, c4u, m8 (show o.length + 1 ≤ 274877906944 by omega), Bool.and_true, cond_true, b2y, if_neg h27]
   · rw [nbf (by omega), cond_true, if_pos ⟨h27, hn⟩])
def v7 (acc : List Int) : List Int → Int → Int
 | [], m => m
 | k :: ks, m => v7 acc ks (if 0 ≤ k ∧ k < acc.length then (if (acc.getD k.toNat 0) > m then acc.getD k.toNat 0 else m) else m)
def P4 : List Nd → List Int → List Int
 | [], acc => acc
 | n :: r, acc => P4 r (acc ++ [v7 acc (kids n) 0 + 1])
def depth (e : List Nd) : Int := (P4 e []).getLastD 0
theorem a1R : ∀ (e : List Nd) (acc : List Int), (P4 e acc).length = acc.length + e.length
 | [], acc => rfl
 | n :: r, acc => by rw [P4, a1R r]; simp; omega
theorem Y4 (acc : List Int) (b : Int) (h : ∀ x ∈ acc, 0 ≤ x ∧ x ≤ b) : ∀ (ks : List Int) (m : Int), 0 ≤ m → m ≤ b → 0 ≤ v7 acc ks m ∧ v7 acc ks m ≤ b
 | [], m, h0, h1 => ⟨h0, h1⟩
 | k :: ks, m, h0, h1 => by
   rw [v7]
   split
   · rename_i hk
     split
     · have hlt : k.toNat < acc.length := by omega
       have hm : acc.getD k.toNat 0 ∈ acc := by
        rw [List.getD_eq_getElem?_getD, List.getElem?_eq_getElem hlt]; exact List.getElem_mem hlt
       exact Y4 acc b h ks _ (h _ hm).1 (h _ hm).2
     · exact Y4 acc b h ks m h0 h1
   · exact Y4 acc b h ks m h0 h1
def row (acc : List Int) (m : Nat) : List Int := acc ++ List.replicate m 0
theorem a4i (acc : List Int) (m : Nat) (hacc : acc.length + m ≤ 1000000) : ∀ (suf pre : List Int) (x : Int), pre.length + suf.length ≤ 1000 →
  k87 T.rb (acc ++ x :: List.replicate m 0) (pre ++ suf) (acc.length : Nat) ((pre ++ suf).length : Nat) (pre.length : Nat) = some (acc ++ v7 acc suf x :: List.replicate m 0, pre ++ suf)
 | [], pre, x, h => d1S (by
   simp only [b87, E4, D7, List.append_nil, cond_false, v7])
 | k :: suf, pre, x, h => d1S (by
   simp only [length_cons] at h
   have ih := fun y => a4i acc m hacc suf (pre ++ [k]) y (by simp; omega)
   simp only [List.append_assoc, List.singleton_append] at ih
   simp only [b87, s4, m5, m6, cond_true, bind_some, v7, s3 pre k (by omega)]
   by_cases h1 : 0 ≤ k
   · rw [dt h1, cond_true]
     by_cases h2 : k < acc.length
     · have hlen : (acc ++ x :: List.replicate m 0).length = acc.length + (m + 1) := by simp
       have hk : nth (acc ++ x :: List.replicate m 0) k.toNat = some (acc.getD k.toNat 0) := by
        have hlt : k.toNat < acc.length := by omega
        rw [nth_getElem?, List.getElem?_append_left hlt, List.getD_eq_getElem?_getD, List.getElem?_eq_getElem hlt]; rfl
       have hb : Nat.blt ((acc.length : Nat) : Int).toNat (acc ++ x :: List.replicate m 0).length = true := b1V (by rw [hlen]; simp)
       rw [dt h2, cond_true, if_pos ⟨h1, h2⟩]
       rw [show inb k (acc ++ x :: List.replicate m 0).length = true from D2 h1 (by rw [hlen]; omega)]
       simp only [cond_true, hk, bind_some, m5, m6, hb]
       have hset : ∀ y, s6 (acc ++ x :: List.replicate m 0) ((acc.length : Nat) : Int).toNat y = acc ++ y :: List.replicate m 0 := fun y => by
        rw [R8, Int.toNat_natCast, List.set_append_right _ _ (Nat.le_refl _), Nat.sub_self, List.set_cons_zero]
       rw [hset]
       exact ih _
     · rw [df h2, cond_false, if_neg (by omega)]
       exact ih x
   · rw [df h1, cond_false, if_neg (by omega)]
     exact ih x)
theorem a4h : ∀ (suf pre : List Nd) (acc : List Int), acc.length = pre.length → pre.length + suf.length ≤ 1000000 → (∀ x ∈ acc, 0 ≤ x ∧ x ≤ acc.length) →
  k86 T.rb (row acc suf.length) (pre ++ suf) ((pre ++ suf).length : Nat) (pre.length : Nat) = some (P4 suf acc)
 | [], pre, acc, h, h2, h3 => d1R (by
   simp [b86, D7, P4, row])
 | n :: suf, pre, acc, h, h2, h3 => d1R (by
   simp only [length_cons] at h2
   have hd := Y4 acc acc.length h3 (kids n) 0 (by omega) (by omega)
   have ih := a4h suf (pre ++ [n]) (acc ++ [v7 acc (kids n) 0 + 1]) (by simp [h]) (by simp; omega) (fun x hx => by
    rcases List.mem_append.1 hx with hx | hx
    · have := h3 x hx; simp; omega
    · simp only [List.mem_singleton] at hx; subst hx; simp; omega)
   simp only [List.append_assoc, List.singleton_append] at ih
   have hrow : row acc (n :: suf).length = acc ++ (0 : Int) :: List.replicate suf.length 0 := by simp [row, List.replicate_succ]
   have hl := a4i acc suf.length (by omega) (kids n) [] 0 (by have := a4v n; simp; omega)
   simp only [List.nil_append, length_nil] at hl
   rw [show ((0 : Nat) : Int) = 0 from rfl] at hl
   have hb : Nat.blt ((acc.length : Nat) : Int).toNat (acc ++ v7 acc (kids n) 0 :: List.replicate suf.length 0).length = true := b1V (by simp)
   have hset : ∀ y, s6 (acc ++ v7 acc (kids n) 0 :: List.replicate suf.length 0) ((acc.length : Nat) : Int).toNat y = acc ++ y :: List.replicate suf.length 0 := fun y => by
    rw [R8, Int.toNat_natCast, List.set_append_right _ _ (Nat.le_refl _), Nat.sub_self, List.set_cons_zero]
   simp only [b86, s4, m5, m6, cond_true, bind_some, b0Y, hrow]
   rw [← h, hl]
   simp only [bind_some, m5, m6, cond_true, hb, hset]
   rw [wr (by omega)]
   rw [h, s3 pre n (by omega)]
   have e2 : acc ++ (v7 acc (kids n) 0 + 1) :: List.replicate suf.length 0 = row (acc ++ [v7 acc (kids n) 0 + 1]) suf.length := by simp [row]
   rw [e2, P4]
   exact ih)
theorem b7o {e : List Nd} (h : e.length ≤ 1000000) : c98 T.rf e = some (depth e) := d6q (by
 simp only [r98]
 by_cases he : e = []
 · subst he; rfl
 rw [b1b he, cond_false]
 have hd : c99 T.rf e = some (P4 e []) := d6r (by
  have hl := a4h e [] [] rfl (by simpa using h) (fun x hx => by cases hx)
  simp only [List.nil_append, length_nil, row] at hl
  simp only [r99, a2a, dt (show e.length ≤ v8 by unfold v8; omega), dt (Nat.le_refl e.length), cond_true]
  rw [show (0 : Int) = ((0 : Nat) : Int) from rfl]
  rw [show ((0 : Nat) : Int) = (0 : Int) from rfl] at hl
  rw [show ((0 : Nat) : Int) = (0 : Int) from rfl, hl]; rfl)
 have hlen : (P4 e []).length = e.length := by rw [a1R]; simp
 have hpos := List.length_pos_iff.2 he
 rw [hd, bind_some, b0Z he (by omega), a2N, dt (by omega), cond_true, Int.toNat_natCast, a3u (by omega), bind_some]
 simp only [depth, Option.some.injEq]
 rw [List.getLastD_eq_getLast?, List.getLast?_eq_getElem?, List.getElem?_eq_getElem (by omega)]
 simp [hlen])
theorem a2q (acc : List Int) (m : Nat) (hacc : acc.length + m ≤ 1000000) (hb0 : ∀ x ∈ acc, 0 ≤ x ∧ x ≤ acc.length) : ∀ (suf pre : List Int) (x : Int), 0 ≤ x → x ≤ acc.length → pre.length + suf.length ≤ 1000 →
  k44 T.rb (acc ++ (x + 1) :: List.replicate m 0) (pre ++ suf) (acc.length : Nat) (pre.length : Nat) = some (acc ++ (v7 acc suf x + 1) :: List.replicate m 0, pre ++ suf)
 | [], pre, x, hx0, hx1, h => d1Q (by
   simp only [b44, E4, D7, List.append_nil, cond_false, v7])
 | k :: suf, pre, x, hx0, hx1, h => d1Q (by
   simp only [length_cons] at h
   have ih := fun y h0 h1 => a2q acc m hacc hb0 suf (pre ++ [k]) y h0 h1 (by simp; omega)
   simp only [List.append_assoc, List.singleton_append] at ih
   simp only [b44, s4, m5, m6, cond_true, bind_some, v7, s3 pre k (by omega)]
   by_cases h1 : 0 ≤ k
   · rw [dt h1, cond_true]
     by_cases h2 : k < acc.length
     · have hlen : (acc ++ (x + 1) :: List.replicate m 0).length = acc.length + (m + 1) := by simp
       have hlt : k.toNat < acc.length := by omega
       have hk : nth (acc ++ (x + 1) :: List.replicate m 0) k.toNat = some (acc.getD k.toNat 0) := by
        rw [nth_getElem?, List.getElem?_append_left hlt, List.getD_eq_getElem?_getD, List.getElem?_eq_getElem hlt]; rfl
       have hm : acc.getD k.toNat 0 ∈ acc := by
        rw [List.getD_eq_getElem?_getD, List.getElem?_eq_getElem hlt]; exact List.getElem_mem hlt
       have hmb := hb0 _ hm
       have hb : Nat.blt ((acc.length : Nat) : Int).toNat (acc ++ (x + 1) :: List.replicate m 0).length = true := b1V (by rw [hlen]; simp)
       rw [dt h2, cond_true, if_pos ⟨h1, h2⟩]
       rw [show inb k (acc ++ (x + 1) :: List.replicate m 0).length = true from D2 h1 (by rw [hlen]; omega)]
       simp only [cond_true, hk, bind_some, m5, m6, hb]
       have hset : ∀ y, s6 (acc ++ (x + 1) :: List.replicate m 0) ((acc.length : Nat) : Int).toNat y = acc ++ y :: List.replicate m 0 := fun y => by
        rw [R8, Int.toNat_natCast, List.set_append_right _ _ (Nat.le_refl _), Nat.sub_self, List.set_cons_zero]
       rw [hset, wr (by omega)]
       have e : (if acc.getD k.toNat 0 + 1 > x + 1 then acc.getD k.toNat 0 + 1 else x + 1) = (if acc.getD k.toNat 0 > x then acc.getD k.toNat 0 else x) + 1 := by
        split <;> split <;> omega
       rw [e]
       exact ih _ (by split <;> omega) (by split <;> omega)
     · rw [df h2, cond_false, if_neg (by omega)]
       exact ih x hx0 hx1
   · rw [df h1, cond_false, if_neg (by omega)]
     exact ih x hx0 hx1)
theorem a2p : ∀ (suf pre : List Nd) (acc : List Int), acc.length = pre.length → pre.length + suf.length ≤ 1000000 → (∀ x ∈ acc, 0 ≤ x ∧ x ≤ acc.length) →
  k43 T.rb (row acc suf.length) (pre ++ suf) (pre.length : Nat) = some (P4 suf acc)
 | [], pre, acc, h, h2, h3 => d1P (by
   simp [b43, D7, P4, row])
 | n :: suf, pre, acc, h, h2, h3 => d1P (by
   simp only [length_cons] at h2
   have hd := Y4 acc acc.length h3 (kids n) 0 (by omega) (by omega)
   have ih := a2p suf (pre ++ [n]) (acc ++ [v7 acc (kids n) 0 + 1]) (by simp [h]) (by simp; omega) (fun x hx => by
    rcases List.mem_append.1 hx with hx | hx
    · have := h3 x hx; simp; omega
    · simp only [List.mem_singleton] at hx; subst hx; simp; omega)
   simp only [List.append_assoc, List.singleton_append] at ih
   have hrow : row acc (n :: suf).length = acc ++ (0 : Int) :: List.replicate suf.length 0 := by simp [row, List.replicate_succ]
   have hl := a2q acc suf.length (by omega) h3 (kids n) [] 0 (by omega) (by omega) (by have := a4v n; simp; omega)
   simp only [List.nil_append, length_nil] at hl
   rw [show ((0 : Nat) : Int) = 0 from rfl, show (0 : Int) + 1 = 1 from rfl] at hl
   have hb : Nat.blt ((acc.length : Nat) : Int).toNat (acc ++ (0 : Int) :: List.replicate suf.length 0).length = true := b1V (by simp)
   have hset : s6 (acc ++ (0 : Int) :: List.replicate suf.length 0) ((acc.length : Nat) : Int).toNat 1 = acc ++ (1 : Int) :: List.replicate suf.length 0 := by
    rw [R8, Int.toNat_natCast, List.set_append_right _ _ (Nat.le_refl _), Nat.sub_self, List.set_cons_zero]
   have hin : inb ((pre.length : Nat) : Int) (acc ++ (0 : Int) :: List.replicate suf.length 0).length = true := by rw [← h]; exact m5 _ _ _
   simp only [b43, s4, m5, m6, cond_true, bind_some, a8A, hrow, hin]
   rw [← h, hb, cond_true, hset, hl]
   simp only [bind_some]
   rw [h, s3 pre n (by omega)]
   have e2 : acc ++ (v7 acc (kids n) 0 + 1) :: List.replicate suf.length 0 = row (acc ++ [v7 acc (kids n) 0 + 1]) suf.length := by simp [row]
   rw [e2, P4]
   exact ih)
theorem a2o {e : List Nd} (h : e.length ≤ 1000000) : c62 T.rf e = some (depth e) := d5N (by
 have hl := a2p e [] [] rfl (by simpa using h) (fun x hx => by cases hx)
 simp only [List.nil_append, length_nil, row] at hl
 rw [show ((0 : Nat) : Int) = (0 : Int) from rfl] at hl
 simp only [r62, a2a, dt (show e.length ≤ v8 by unfold v8; omega), dt (Nat.le_refl e.length), cond_true, hl, bind_some]
 by_cases he : e = []
 · subst he; rfl
 rw [b1b he, cond_false]
 have hlen : (P4 e []).length = e.length := by rw [a1R]; simp
 have hpos := List.length_pos_iff.2 he
 rw [b0Z he (by omega), a2N, dt (by omega), cond_true, Int.toNat_natCast, a3u (by omega), bind_some]
 simp only [depth, Option.some.injEq]
 rw [List.getLastD_eq_getLast?, List.getLast?_eq_getElem?, List.getElem?_eq_getElem (by omega)]
 simp [hlen])
def a9k (e : List Nd) (k : Nat) : Int := (e.getD k (0, 0, 0, 0, 0, [])).1
def b3D (e : List Nd) (n : Nd) (at_ : Nat) (k : Int) : Bool := decide (a9k e k.toNat = 28) == (decide (n.1 = 27) || (decide (n.1 = 28) && (decide (n.2.2.1 ≠ -1) && decide (at_ = 0))))
def a3B (e : List Nd) (n : Nd) (i : Nat) : List Int → Nat → List Nat → Option (List Nat)
 | [], _, V => some V
 | k :: ks, a, V => if 0 ≤ k ∧ k < i ∧ k.toNat ∉ V ∧ b3D e n a k = true then a3B e n i ks (a + 1) (V ++ [k.toNat]) else none
def scan (e : List Nd) : List Nd → Nat → List Nat → Option (List Nat)
 | [], _, V => some V
 | n :: r, i, V => if a3t n = true then match a3B e n i (kids n) 0 V with
    | some V' => scan e r (i + 1) V'
    | none => none
   else none
def M1 (e : List Nd) : Bool := decide (e ≠ []) && (decide (e.length ≤ 5000) && (decide (a9k e (e.length - 1) ≠ 28) && (match scan e e 0 [] with
 | none => false
 | some V => (List.range (e.length - 1)).all (fun j => decide (j ∈ V)) && decide (depth e ≤ 40))))
def E2 (N : Nat) (V : List Nat) : List Bool := (List.range N).map fun j => decide (j ∈ V)
theorem X9 (N : Nat) (V : List Nat) : (E2 N V).length = N := by simp [E2]
theorem b0D {N : Nat} {V : List Nat} {k : Nat} (h : k < N) : nth (E2 N V) k = some (decide (k ∈ V)) := by
 rw [nth_getElem?, E2, List.getElem?_map, List.getElem?_range h]; rfl
theorem b7g {N : Nat} {V : List Nat} {k : Nat} (h : k < N) : s6 (E2 N V) k true = E2 N (V ++ [k]) := by
 rw [R8]
 apply List.ext_getElem?
 intro j
 rw [List.getElem?_set]
 by_cases hj : j < N
 · simp only [E2, List.getElem?_map, List.getElem?_range hj, List.length_map, List.length_range]
   by_cases e : k = j
   · subst e; simp [h]
   · simp [e, Ne.symm e]
 · have hne : k ≠ j := by omega
   rw [if_neg hne, List.getElem?_eq_none (by rw [X9]; omega), List.getElem?_eq_none (by rw [X9]; omega)]
theorem b2K {e : List Nd} {k : Nat} (h : k < e.length) : ∃ x, nth e k = some x ∧ x.1 = a9k e k := by
 refine ⟨e[k], a3u h, ?_⟩
 rw [a9k, List.getD_eq_getElem?_getD, List.getElem?_eq_getElem h]; rfl
theorem a9u (e : List Nd) (n : Nd) (i : Nat) (hi : i < e.length) (hN : e.length ≤ 1000000) : ∀ (suf pre : List Int) (V : List Nat), pre.length + suf.length ≤ 1000 →
  match a3B e n i suf pre.length V with
  | some V' => k78 T.rb (E2 e.length V) n (pre ++ suf) e (i : Nat) ((pre ++ suf).length : Nat) (pre.length : Nat) = some (.inr (E2 e.length V', n, pre ++ suf))
  | none => ∃ u, k78 T.rb (E2 e.length V) n (pre ++ suf) e (i : Nat) ((pre ++ suf).length : Nat) (pre.length : Nat) = some (.inl (u, n, pre ++ suf, false))
 | [], pre, V, h => c1k (by
   simp only [b78, E4, D7, List.append_nil, cond_false])
 | k :: suf, pre, V, h => by
   simp only [length_cons] at h
   have ih := a9u e n i hi hN suf (pre ++ [k]) (V ++ [k.toNat]) (by simp; omega)
   have hpl : (pre ++ [k]).length = pre.length + 1 := by simp
   simp only [List.append_assoc, List.singleton_append] at ih
   rw [hpl] at ih
   have fall : ∀ {u}, b78 T.rf T.rb (E2 e.length V) n (pre ++ k :: suf) e (i : Nat) ((pre ++ k :: suf).length : Nat) (pre.length : Nat) = some (.inl (u, n, pre ++ k :: suf, false)) →
    ∃ u, k78 T.rb (E2 e.length V) n (pre ++ k :: suf) e (i : Nat) ((pre ++ k :: suf).length : Nat) (pre.length : Nat) = some (.inl (u, n, pre ++ k :: suf, false)) := fun h => ⟨_, c1k h⟩
   rw [a3B]
   by_cases h1 : 0 ≤ k
   case neg =>
    rw [if_neg (by omega)]
    refine fall (u := E2 e.length V) ?_
    simp only [b78, s4, m5, m6, cond_true, bind_some, dt (show k < 0 by omega)]
   by_cases h2 : k < i
   case neg =>
    rw [if_neg (by omega)]
    refine fall (u := E2 e.length V) ?_
    simp only [b78, s4, m5, m6, cond_true, bind_some, df (show ¬ k < 0 by omega), cond_false, dt (show k ≥ i by omega)]
   have hk : k.toNat < e.length := by omega
   have hin : inb k (E2 e.length V).length = true := D2 h1 (by rw [X9]; omega)
   by_cases h3 : k.toNat ∈ V
   · rw [if_neg (by intro hh; exact hh.2.2.1 h3)]
     refine fall (u := E2 e.length V) ?_
     simp only [b78, s4, m5, m6, cond_true, bind_some, df (show ¬ k < 0 by omega), cond_false, df (show ¬ k ≥ i by omega), hin, b0D hk, dt h3]
   have hine : inb k e.length = true := D2 h1 (by omega)
   obtain ⟨x, hx, hxo⟩ := b2K hk
   have hbl : Nat.blt k.toNat (E2 e.length V).length = true := b1V (by rw [X9]; exact hk)
   have hnext : IntKind.i64.wrap (((pre.length : Nat) : Int) + 1) = ((pre.length + 1 : Nat) : Int) := C6 (by omega)
   have hbody : b78 T.rf T.rb (E2 e.length V) n (pre ++ k :: suf) e (i : Nat) ((pre ++ k :: suf).length : Nat) (pre.length : Nat) =
     if b3D e n pre.length k = true then k78 T.rb (E2 e.length (V ++ [k.toNat])) n (pre ++ k :: suf) e (i : Nat) ((pre ++ k :: suf).length : Nat) ((pre.length + 1 : Nat) : Int)
     else some (.inl (E2 e.length (V ++ [k.toNat]), n, pre ++ k :: suf, false)) := by
    simp only [b78, s4, m5, m6, cond_true, bind_some, df (show ¬ k < 0 by omega), cond_false, df (show ¬ k ≥ i by omega), hin, b0D hk, df h3, hbl, hine, hx, b7g hk, hnext, b3D, ← hxo]
    have hp0 : (((pre.length : Nat) : Int) == 0) = decide (pre.length = 0) := by
     by_cases e : pre.length = 0
     · rw [dt e, bt (by omega)]
     · rw [df e, bf (by omega)]
    have hx28 : (x.1 == 28) = decide (x.1 = 28) := by
     by_cases e : x.1 = 28
     · rw [dt e, bt e]
     · rw [df e, bf e]
    rw [hp0, hx28]
    by_cases e27 : n.1 = 27
    · simp only [bt e27, cond_true, dt e27, Bool.true_or]
      cases decide (x.1 = 28) <;> simp
    · by_cases e28 : n.1 = 28
      · by_cases eb : n.2.2.1 = -1
        · simp only [bf e27, bt e28, cond_true, cond_false, nbt eb, dt e28, df e27, df (show ¬ (n.2.2.1 ≠ -1) from fun h => h eb), Bool.false_or, Bool.true_and, Bool.false_and]
          cases decide (x.1 = 28) <;> simp
        · simp only [bf e27, bt e28, cond_true, cond_false, nbf eb, dt e28, df e27, dt (show n.2.2.1 ≠ -1 from eb), Bool.false_or, Bool.true_and]
          cases decide (x.1 = 28) <;> cases decide (pre.length = 0) <;> simp
      · simp only [bf e27, bf e28, cond_false, df e28, df e27, Bool.false_or, Bool.false_and]
        cases decide (x.1 = 28) <;> simp
   by_cases h4 : b3D e n pre.length k = true
   · rw [if_pos ⟨h1, h2, h3, h4⟩]
     rw [if_pos h4] at hbody
     cases hs : a3B e n i suf (pre.length + 1) (V ++ [k.toNat]) with
     | none =>
       rw [hs] at ih
       obtain ⟨u, ih⟩ := ih
       exact ⟨u, c1k (hbody.trans ih)⟩
     | some V' =>
       rw [hs] at ih
       dsimp only at ih ⊢
       exact c1k (hbody.trans ih)
   · rw [if_neg (by intro hh; exact h4 hh.2.2.2)]
     rw [if_neg h4] at hbody
     exact fall hbody
theorem a9t (e : List Nd) (hN : e.length ≤ 1000000) : ∀ (suf pre : List Nd) (V : List Nat), e = pre ++ suf →
  match scan e suf pre.length V with
  | some V' => k75 T.rb (E2 e.length V) e e (e.length : Nat) (pre.length : Nat) = some (.inr (E2 e.length V'))
  | none => ∃ u, k75 T.rb (E2 e.length V) e e (e.length : Nat) (pre.length : Nat) = some (.inl (u, false))
 | [], pre, V, h => b9d (by
   subst h
   simp only [b75, E4, D7, List.append_nil, cond_false])
 | n :: suf, pre, V, h => by
   have ih := fun V' => a9t e hN suf (pre ++ [n]) V' (by rw [h]; simp)
   have hlt : pre.length < e.length := by rw [h]; simp
   have hl2 := a9u e n pre.length hlt hN (kids n) [] V (by have := a4v n; simp; omega)
   simp only [List.nil_append, length_nil] at hl2
   have a1 : decide (((pre.length : Nat) : Int) < ((e.length : Nat) : Int)) = true := dt (by omega)
   have a2 : inb ((pre.length : Nat) : Int) e.length = true := D2 (by omega) (by omega)
   have a3 : nth e ((pre.length : Nat) : Int).toNat = some n := by rw [h]; exact m6 pre n suf
   have a4 : IntKind.i64.wrap (((pre.length : Nat) : Int) + 1) = ((pre ++ [n]).length : Nat) := s3 pre n (by omega)
   rw [scan]
   cases hn : a3t n with
   | false =>
     rw [if_neg (by decide)]
     exact ⟨_, b9d (by
      simp only [b75, a1, a2, a3, cond_true, bind_some, a9U, hn, Bool.not_false]
      rfl)⟩
   | true =>
     rw [if_pos rfl]
     have hbody : b75 T.rf T.rb (E2 e.length V) e e (e.length : Nat) (pre.length : Nat) = (k78 T.rb (E2 e.length V) n (kids n) e (pre.length : Nat) ((kids n).length : Nat) ((0 : Nat) : Int)).bind fun z => match z with
       | .inl u => some (.inl (u.1, u.2.2.2))
       | .inr w => k75 T.rb w.1 e e (e.length : Nat) ((pre ++ [n]).length : Nat) := by
      simp only [b75, a1, a2, a3, cond_true, cond_false, bind_some, a9U, hn, Bool.not_true, b0Y, a4]
      rfl
     cases hs : a3B e n pre.length (kids n) 0 V with
     | none =>
       rw [hs] at hl2
       obtain ⟨u, hl2⟩ := hl2
       exact ⟨u, b9d (by rw [hbody, hl2]; rfl)⟩
     | some V' =>
       rw [hs] at hl2
       have ih := ih V'
       rw [length_append, List.length_singleton] at ih
       dsimp only at hl2 ⊢
       cases hs2 : scan e suf (pre.length + 1) V' with
       | none =>
         rw [hs2] at ih
         obtain ⟨u, ih⟩ := ih
         exact ⟨u, b9d (by rw [hbody, hl2, bind_some, length_append, List.length_singleton]; exact ih)⟩
       | some V2 =>
         rw [hs2] at ih
         exact b9d (by rw [hbody, hl2, bind_some, length_append, List.length_singleton]; exact ih)
theorem a5S (b : Bool) : ∀ (suf pre : List Bool), pre.length + suf.length ≤ 1000000 →
  ∃ z, k79 T.rb (pre ++ suf) b ((pre ++ suf).length : Nat) (pre.length : Nat) = some z ∧ (match z with
   | .inl j => 0 ≤ j ∧ b ∈ suf
   | .inr _ => b ∉ suf)
 | [], pre, h => ⟨.inr (), c5L (by simp only [b79, E4, D7, List.append_nil, cond_false]), by simp⟩
 | x :: suf, pre, h => by
   simp only [length_cons] at h
   obtain ⟨z, ih, hz⟩ := a5S b suf (pre ++ [x]) (by simp; omega)
   simp only [List.append_assoc, List.singleton_append] at ih
   by_cases hx : b = x
   · refine ⟨.inl (pre.length : Nat), c5L ?_, by omega, by simp [hx]⟩
     simp only [b79, s4, m5, m6, cond_true, bind_some, beq_iff_eq.2 hx]
   · refine ⟨z, c5L ?_, ?_⟩
     · simp only [b79, s4, m5, m6, cond_true, cond_false, bind_some, beq_eq_false_iff_ne.2 hx, s3 pre x (by omega)]
       exact ih
     · cases z with
       | inl j => exact ⟨hz.1, List.mem_cons_of_mem _ hz.2⟩
       | inr j => simp only [List.mem_cons, not_or]; exact ⟨hx, hz⟩
theorem b0H {l : List Bool} (b : Bool) (h : l.length ≤ 1000000) : c96 T.rf l b = some (decide (b ∈ l)) := d6o (by
 obtain ⟨z, hz, hp⟩ := a5S b l [] (by simpa using h)
 simp only [List.nil_append, length_nil] at hz
 have hI : ∀ z, k79 T.rb l b (l.length : Nat) 0 = some z → c97 T.rf l b = some (match z with
   | .inl j => j
   | .inr _ => -1) := fun z hz => d6p (by
  simp only [r97, hz]
  cases z <;> rfl)
 simp only [r96, hI z hz, bind_some]
 cases z with
 | inl j => rw [dt (show (j : Int) ≥ 0 from hp.1), dt hp.2]
 | inr j => rw [df (show ¬ ((-1 : Int) ≥ 0) by decide), df hp])
theorem c4r {e : List Nd} (h : e.length ≤ 1000000) : c92 T.rf e = some (M1 e) := d6k (by
 simp only [r92, M1]
 by_cases he : e = []
 · subst he; rfl
 have hpos := List.length_pos_iff.2 he
 rw [b1b he, cond_false, dt he, Bool.true_and]
 by_cases hl : e.length ≤ 5000
 case neg => rw [dt (show ((e.length : Nat) : Int) > 5000 by omega), cond_true, df hl, Bool.false_and]
 rw [df (show ¬ ((e.length : Nat) : Int) > 5000 by omega), cond_false, dt hl, Bool.true_and]
 obtain ⟨x, hx, hxo⟩ := b2K (e := e) (k := e.length - 1) (by omega)
 rw [b0Z he (by omega), a2N, dt (show e.length - 1 < e.length by omega), cond_true, Int.toNat_natCast, hx, bind_some]
 by_cases h28 : x.1 = 28
 · rw [bt h28, cond_true, df (show ¬ (a9k e (e.length - 1) ≠ 28) from fun g => g (hxo ▸ h28)), Bool.false_and]
 rw [bf h28, cond_false, dt (show a9k e (e.length - 1) ≠ 28 from hxo ▸ h28), Bool.true_and, a2a, dt (show e.length ≤ v8 by unfold v8; omega), cond_true, a2a, dt (Nat.le_refl _), cond_true]
 have h0 := a9t e (by omega) e [] [] rfl
 have hu : E2 e.length [] = List.replicate e.length false := by
  apply List.ext_getElem?
  intro j
  simp only [E2, List.getElem?_map, List.getElem?_replicate]
  by_cases hj : j < e.length
  · rw [List.getElem?_range hj, if_pos hj]; simp
  · rw [List.getElem?_eq_none (by simp; omega), if_neg hj]; rfl
 rw [hu] at h0
 simp only [length_nil] at h0
 rw [show ((0 : Nat) : Int) = (0 : Int) from rfl] at h0
 cases hs : scan e e 0 [] with
 | none =>
   rw [hs] at h0
   obtain ⟨u, h0⟩ := h0
   rw [h0]; rfl
 | some V =>
   rw [hs] at h0
   rw [h0]
   simp only [bind_some, X9, a2a, dt (show e.length - 1 ≤ e.length by omega), cond_true, sub_zero, Nat.sub_zero]
   have hlen : ((E2 e.length V).take (e.length - 1)).length ≤ 1000000 := by simp [X9]; omega
   rw [b0H false hlen, bind_some]
   have hall : decide (false ∈ (E2 e.length V).take (e.length - 1)) = !((List.range (e.length - 1)).all fun j => decide (j ∈ V)) := by
    have key : false ∈ (E2 e.length V).take (e.length - 1) ↔ ∃ j, j < e.length - 1 ∧ j ∉ V := by
     rw [List.mem_iff_getElem?]
     constructor
     · rintro ⟨j, hj⟩
       rw [List.getElem?_take] at hj
       split at hj
       · rename_i hlt
         rw [E2, List.getElem?_map, List.getElem?_range (by omega)] at hj
         exact ⟨j, hlt, by simpa using hj⟩
       · cases hj
     · rintro ⟨j, hlt, hj⟩
       refine ⟨j, ?_⟩
       rw [List.getElem?_take, if_pos hlt, E2, List.getElem?_map, List.getElem?_range (by omega)]
       simpa using hj
    cases hc : (List.range (e.length - 1)).all fun j => decide (j ∈ V)
    · refine dt (key.2 ?_)
      rw [List.all_eq_false] at hc
      obtain ⟨j, h1, h2⟩ := hc
      exact ⟨j, List.mem_range.1 h1, by simpa using h2⟩
    · refine df (fun hh => ?_)
      obtain ⟨j, h1, h2⟩ := key.1 hh
      rw [List.all_eq_true] at hc
      exact h2 (by simpa using hc j (List.mem_range.2 h1))
   rw [hall, Bool.not_not]
   cases (List.range (e.length - 1)).all fun j => decide (j ∈ V)
   · rfl
   · rw [cond_true, b7o (by omega), bind_some, Bool.true_and])
theorem eqm (x y : Int) : (x == y) = decide (x = y) := by
 by_cases e : x = y
 · rw [dt e, bt e]
 · rw [df e, bf e]
theorem a8u (n : Nd) : c5f T.rf n = some (decide (0 ≤ n.2.2.2.2.1 ∧ n.2.2.2.2.1 ≤ F2 n.1 ∧ (n.2.2.2.2.2 ≠ [] ↔ (n.1 = 3 ∨ n.1 = 27)))) := d2x (by
 obtain ⟨op, a, b, c, k, nm⟩ := n
 have e : ∀ c : Bool, ((!(nm == ([] : List UInt8))) == c) = decide (nm ≠ [] ↔ c = true) := fun c => by cases nm <;> cases c <;> simp
 simp only [c1S, e, F2, eqm]
 have key : ∀ (Q : Prop) [Decidable Q] (P : Prop) [Decidable P] (M : Int), (P ↔ (0 ≤ k ∧ k ≤ M)) → (Q ↔ (nm ≠ [] ↔ (op = 3 ∨ op = 27))) → ∀ x : Option Bool, x = some (decide P) → (bif !decide Q then some false else x) = some (decide (0 ≤ k ∧ k ≤ M ∧ (nm ≠ [] ↔ (op = 3 ∨ op = 27)))) := by
  intro Q _ P _ M h1 h2 x hx
  by_cases hq : Q
  · rw [dt hq, Bool.not_true, cond_false, hx]
    by_cases hp : P
    · rw [dt hp, dt ⟨(h1.1 hp).1, (h1.1 hp).2, h2.1 hq⟩]
    · rw [df hp, df (fun hh => hp (h1.2 ⟨hh.1, hh.2.1⟩))]
  · rw [df hq, Bool.not_false, cond_true, df (fun hh => hq (h2.2 hh.2.2))]
 have two : ∀ M : Int, (bif decide (k ≥ 0) then some (decide (k ≤ M)) else some false) = some (decide (0 ≤ k ∧ k ≤ M)) := fun M => by
  by_cases h0 : 0 ≤ k
  · rw [dt (show k ≥ 0 from h0), cond_true]; simp [h0]
  · rw [df (show ¬ k ≥ 0 from h0), cond_false]; simp [h0]
 by_cases h3 : op = 3
 · subst h3
   exact key _ (k = 0) 0 (by omega) (by simp) _ rfl
 by_cases h27 : op = 27
 · subst h27
   exact key _ (k = 0) 0 (by omega) (by simp) _ rfl
 rw [df h3, cond_false, df h27]
 by_cases h1 : op = 1
 · subst h1
   exact key _ (0 ≤ k ∧ k ≤ 2147483647) 2147483647 Iff.rfl (by simp) _ (two _)
 by_cases h2 : op = 2
 · subst h2
   refine key _ (0 ≤ k ∧ k ≤ 1) 1 Iff.rfl (by simp) _ ?_
   by_cases h0 : k = 0
   · subst h0; rfl
   · rw [df (show ¬ (2 : Int) = 1 by decide), cond_false, dt rfl, cond_true, df h0, cond_false]
     by_cases h1 : k = 1
     · subst h1; rfl
     · rw [df h1, df (by omega)]
 by_cases h25 : op = 25
 · subst h25
   exact key _ (0 ≤ k ∧ k ≤ 1000) 1000 Iff.rfl (by simp) _ (two _)
 rw [df h1, df h2, df h25, if_neg h1, if_neg h2, if_neg h25]
 exact key _ (k = 0) 0 (by omega) (by simp [h3, h27]) _ rfl)
def a3i (e : List Nd) (n : Nd) : List Int → Nat → Bool
 | [], _ => true
 | k :: ks, a => b3D e n a k && a3i e n ks (a + 1)
theorem c5z (n : Nd) (h : n.1 = 28) : (kids n).length = 2 ↔ n.2.2.1 ≠ -1 := by
 obtain ⟨op, a, b, c, k, nm⟩ := n
 simp only at h
 subst h
 by_cases hb : b = -1
 · subst hb; simp [kids]
 · simp [kids, hb]
def a5M (i : Nat) (ks : List Int) : Bool := ks.all fun k => decide (0 ≤ k ∧ k < i)
def G9 (e : List Nd) : List Nd → Nat → List Nat → Option (List Nat)
 | [], _, V => some V
 | n :: r, i, V => if a3t n = true ∧ a5M i (kids n) = true ∧ a3i e n (kids n) 0 = true then G9 e r (i + 1) (V ++ (kids n).map Int.toNat) else none
theorem a5H : ∀ l : List Nat, l.Nodup ↔ ∀ j, l.count j ≤ 1
 | [] => by simp
 | a :: l => by
   rw [List.nodup_cons, a5H l]
   constructor
   · rintro ⟨h1, h2⟩ j
     rw [List.count_cons]
     by_cases e : a = j
     · subst e; rw [List.count_eq_zero.2 h1]; simp
     · simp [e, h2 j]
   · intro h
     refine ⟨fun hm => ?_, fun j => ?_⟩
     · have := h a
       rw [List.count_cons_self] at this
       have := List.count_pos_iff.2 hm
       omega
     · have := h j
       rw [List.count_cons] at this
       omega
theorem a5N (e : List Nd) (n : Nd) (i : Nat) : ∀ (ks : List Int) (a : Nat) (V V' : List Nat), V.Nodup → (a3B e n i ks a V = some V' ↔ a5M i ks = true ∧ a3i e n ks a = true ∧ V' = V ++ ks.map Int.toNat ∧ V'.Nodup)
 | [], a, V, V', hV => by
   simp only [a3B, a5M, a3i, List.all_nil, List.map_nil, List.append_nil, true_and, Option.some.injEq]
   constructor
   · rintro rfl; exact ⟨rfl, hV⟩
   · rintro ⟨rfl, _⟩; rfl
 | k :: ks, a, V, V', hV => by
   rw [a3B]
   split
   · rename_i h
     have hV2 : (V ++ [k.toNat]).Nodup := List.nodup_append.2 ⟨hV, by simp, fun x hx y hy => by simp at hy; subst hy; intro e; subst e; exact h.2.2.1 hx⟩
     rw [a5N e n i ks (a + 1) (V ++ [k.toNat]) V' hV2]
     simp [a5M, a3i, h.1, h.2.1, h.2.2.2]
   · rename_i h
     constructor
     · intro hh; cases hh
     · rintro ⟨h1, h2, h3, h4⟩
       exfalso
       simp only [a5M, List.all_cons, and_eq_true, decide_eq_true_eq] at h1
       simp only [a3i, and_eq_true] at h2
       refine h ⟨h1.1.1, h1.1.2, fun hm => ?_, h2.1⟩
       rw [h3] at h4
       exact (List.nodup_append.1 h4).2.2 _ hm _ (by simp) rfl
theorem a2Y (e : List Nd) : ∀ (r : List Nd) (i : Nat) (V V' : List Nat), G9 e r i V = some V' → ∃ W, V' = V ++ W
 | [], i, V, V', h => by cases h; exact ⟨[], by simp⟩
 | n :: r, i, V, V', h => by
   rw [G9] at h
   split at h
   · obtain ⟨W, rfl⟩ := a2Y e r _ _ _ h
     exact ⟨(kids n).map Int.toNat ++ W, by simp⟩
   · cases h
theorem a2y (e : List Nd) : ∀ (r : List Nd) (i : Nat) (V V' : List Nat), V.Nodup → (scan e r i V = some V' ↔ G9 e r i V = some V' ∧ V'.Nodup)
 | [], i, V, V', hV => by
   simp only [scan, G9, Option.some.injEq]
   constructor
   · rintro rfl; exact ⟨rfl, hV⟩
   · exact fun h => h.1
 | n :: r, i, V, V', hV => by
   rw [scan, G9]
   by_cases hn : a3t n = true
   case neg => rw [if_neg hn, if_neg (fun h => hn h.1)]; simp
   rw [if_pos hn]
   cases hs : a3B e n i (kids n) 0 V with
   | some V1 =>
     obtain ⟨g1, g2, g3, g4⟩ := (a5N e n i (kids n) 0 V V1 hV).1 hs
     rw [if_pos ⟨hn, g1, g2⟩]
     subst g3
     exact a2y e r (i + 1) _ V' g4
   | none =>
     constructor
     · intro h; cases h
     · rintro ⟨h, hd⟩
       split at h
       · rename_i hc
         obtain ⟨W, rfl⟩ := a2Y e r _ _ _ h
         have := (a5N e n i (kids n) 0 V (V ++ (kids n).map Int.toNat) hV).2 ⟨hc.2.1, hc.2.2, rfl, (List.nodup_append.1 hd).1⟩
         rw [hs] at this; cases this
       · cases h
theorem a8G (e : List Nd) (m : Nat) : ∀ (r : List Nd) (i : Nat) (V V' : List Nat), G9 e r i V = some V' → (∀ x ∈ V, x < m) → i + r.length ≤ m + 1 → ∀ x ∈ V', x < m
 | [], i, V, V', h, hV, hm => by cases h; exact hV
 | n :: r, i, V, V', h, hV, hm => by
   rw [G9] at h
   simp only [length_cons] at hm
   split at h
   · rename_i hc
     refine a8G e m r (i + 1) _ V' h (fun x hx => ?_) (by omega)
     rcases List.mem_append.1 hx with hx | hx
     · exact hV x hx
     · obtain ⟨k, hk, rfl⟩ := List.mem_map.1 hx
       have := List.all_eq_true.1 hc.2.1 k hk
       simp only [decide_eq_true_eq] at this
       omega
   · cases h
def nd0 : Nd := (0, 0, 0, 0, 0, [])
def a9l (g : Int → List Nd → List Nd) : List Int → List Nd → List Int → List Nd × List Int
 | [], o, ks => (o, ks)
 | k :: r, o, ks => a9l g r (g k o) (ks ++ [((g k o).length : Int) - 1])
def ord (e : List Nd) : Nat → Int → List Nd → List Nd
 | 0, _, o => o
 | f + 1, i, o => (a9l (ord e f) (kids (e.getD i.toNat nd0)) o []).1 ++ [aim (e.getD i.toNat nd0) (a9l (ord e f) (kids (e.getD i.toNat nd0)) o []).2]
def szL (g : Int → Nat) : List Int → Nat
 | [] => 0
 | k :: r => g k + szL g r
def sz (e : List Nd) : Nat → Int → Nat
 | 0, _ => 0
 | f + 1, i => 1 + szL (sz e f) (kids (e.getD i.toNat nd0))
def b7m (e : List Nd) : Prop := ∀ (i : Nat) (n : Nd), nth e i = some n → ∀ k ∈ kids n, 0 ≤ k ∧ k < i
theorem a3a {g h : Int → Nat} : ∀ {ks : List Int}, (∀ k ∈ ks, g k = h k) → szL g ks = szL h ks
 | [], _ => rfl
 | k :: r, hh => by rw [szL, szL, hh k List.mem_cons_self, a3a fun q hq => hh q (List.mem_cons_of_mem _ hq)]
theorem a1Y {e : List Nd} {i : Nat} (h : i < e.length) : nth e i = some (e.getD i nd0) := by
 rw [a3u h, List.getD_eq_getElem?_getD, List.getElem?_eq_getElem h]; rfl
theorem a6V {e : List Nd} (hA : b7m e) : ∀ (f i : Nat), i < f → i < e.length → sz e f (i : Int) = sz e (i + 1) (i : Int)
 | 0, i, h, _ => by omega
 | f + 1, i, h, hi => by
   rw [sz, sz]
   congr 1
   refine a3a fun k hk => ?_
   rw [Int.toNat_natCast] at hk
   have := hA i _ (a1Y hi) k hk
   obtain ⟨j, rfl⟩ : ∃ j : Nat, k = j := ⟨k.toNat, by omega⟩
   rw [a6V hA f j (by omega) (by omega), a6V hA i j (by omega) (by omega)]
 termination_by f => f
def a1F (S : Nat → Nat) (V : List Nat) : Nat → Nat
 | 0 => 0
 | i + 1 => a1F S V i + if i ∈ V then 0 else S i
theorem b1O (S : Nat → Nat) (V : List Nat) (k : Nat) (hk : k ∉ V) : ∀ i, a1F S (V ++ [k]) i + (if k < i then S k else 0) = a1F S V i
 | 0 => by simp [a1F]
 | i + 1 => by
   have ih := b1O S V k hk i
   simp only [a1F, List.mem_append, List.mem_singleton]
   by_cases e : i = k
   · subst e
     rw [if_neg (by omega)] at ih
     simp [hk]; omega
   · by_cases hV : i ∈ V
     · simp only [hV, true_or, if_true]
       by_cases hlt : k < i
       · rw [if_pos hlt] at ih; rw [if_pos (by omega)]; omega
       · rw [if_neg hlt] at ih; rw [if_neg (by omega)]; omega
     · simp only [hV, e, or_self, if_false]
       by_cases hlt : k < i
       · rw [if_pos hlt] at ih; rw [if_pos (by omega)]; omega
       · rw [if_neg hlt] at ih; rw [if_neg (by omega)]; omega
theorem a5g (S : Nat → Nat) (i : Nat) : ∀ (ks : List Int) (V : List Nat), (V ++ ks.map Int.toNat).Nodup → (∀ k ∈ ks, 0 ≤ k ∧ k < i) → a1F S (V ++ ks.map Int.toNat) i + szL (fun k => S k.toNat) ks = a1F S V i
 | [], V, _, _ => by simp [szL]
 | k :: ks, V, hn, hk => by
   have hk0 := hk k List.mem_cons_self
   have e : V ++ (k :: ks).map Int.toNat = (V ++ [k.toNat]) ++ ks.map Int.toNat := by simp
   rw [e] at hn ⊢
   have ih := a5g S i ks (V ++ [k.toNat]) hn (fun q hq => hk q (List.mem_cons_of_mem _ hq))
   have hkV : k.toNat ∉ V := fun hm => (List.nodup_append.1 (List.nodup_append.1 hn).1).2.2 _ hm _ (by simp) rfl
   have := b1O S V k.toNat hkV i
   rw [if_pos (by omega)] at this
   rw [szL]; omega
theorem b3c (e : List Nd) (S : Nat → Nat) (hS : ∀ i n, nth e i = some n → S i = 1 + szL (fun k => S k.toNat) (kids n)) : ∀ (suf pre : List Nd) (V V' : List Nat), e = pre ++ suf → G9 e suf pre.length V = some V' → V'.Nodup →
  (∀ x ∈ V, x < pre.length) → a1F S V pre.length = pre.length → (∀ j, j < pre.length → S j ≤ j + 1) → ∀ j, j < e.length → S j ≤ j + 1
 | [], pre, V, V', h, hs, hn, hV, hU, hj, j, hjl => hj j (by rw [h] at hjl; simpa using hjl)
 | n :: suf, pre, V, V', h, hs, hn, hV, hU, hj, j, hjl => by
   rw [G9] at hs
   split at hs
   case isFalse => cases hs
   rename_i hc
   have hpl : (pre ++ [n]).length = pre.length + 1 := by simp
   have hi : nth e pre.length = some n := by rw [h, nth_getElem?]; simp
   obtain ⟨W, rfl⟩ := a2Y e suf _ _ _ hs
   have hn1 := (List.nodup_append.1 hn).1
   have hr : ∀ k ∈ kids n, 0 ≤ k ∧ k < pre.length := fun k hk => by simpa using List.all_eq_true.1 hc.2.1 k hk
   have hV' : ∀ x ∈ V ++ (kids n).map Int.toNat, x < pre.length := fun x hx => by
    rcases List.mem_append.1 hx with hx | hx
    · exact hV x hx
    · obtain ⟨k, hk, rfl⟩ := List.mem_map.1 hx
      have := hr k hk; omega
   have hU' := a5g S pre.length (kids n) V hn1 hr
   have hSi := hS _ _ hi
   have hSU : a1F S (V ++ (kids n).map Int.toNat) (pre.length + 1) = pre.length + 1 := by
    rw [a1F, if_neg (fun hm => by have := hV' _ hm; omega)]; omega
   refine b3c e S hS suf (pre ++ [n]) _ _ (by rw [h]; simp) (by rw [hpl]; exact hs) hn (fun x hx => by have := hV' x hx; rw [hpl]; omega) (by rw [hpl]; exact hSU) (fun q hq => ?_) j hjl
   rw [hpl] at hq
   rcases Nat.lt_or_eq_of_le (Nat.le_of_lt_succ hq) with h1 | h1
   · exact hj q h1
   · subst h1
     rw [a1F, if_neg (fun hm => by have := hV' _ hm; omega)] at hSU
     omega
theorem a6y (e : List Nd) : ∀ (suf pre : List Nd) (V V' : List Nat), e = pre ++ suf → G9 e suf pre.length V = some V' → ∀ (i : Nat) (n : Nd), pre.length ≤ i → nth e i = some n → a3t n = true ∧ a3i e n (kids n) 0 = true ∧ ∀ k ∈ kids n, 0 ≤ k ∧ k < i
 | [], pre, V, V', h, hs, i, n, hi, hn => by
   rw [nth_getElem?] at hn
   have := (List.getElem?_eq_some_iff.1 hn).1
   rw [h] at this; simp at this; omega
 | m :: suf, pre, V, V', h, hs, i, n, hi, hn => by
   rw [G9] at hs
   split at hs
   case isFalse => cases hs
   rename_i hc
   have hpl : (pre ++ [m]).length = pre.length + 1 := by simp
   rcases Nat.lt_or_eq_of_le hi with h1 | h1
   · exact a6y e suf (pre ++ [m]) _ _ (by rw [h]; simp) (by rw [hpl]; exact hs) i n (by rw [hpl]; exact h1) hn
   · subst h1
     rw [h, nth_getElem?] at hn
     simp at hn
     subst hn
     exact ⟨hc.1, hc.2.2, fun k hk => by simpa using List.all_eq_true.1 hc.2.1 k hk⟩
structure MayP (e : List Nd) : Prop where
 ne : e ≠ []
 len : e.length ≤ 5000
 last : a9k e (e.length - 1) ≠ 28
 deep : depth e ≤ 40
 node : ∀ (i : Nat) (n : Nd), nth e i = some n → a3t n = true
 args : ∀ (i : Nat) (n : Nd), nth e i = some n → a3i e n (kids n) 0 = true
 ahead : b7m e
 small : ∀ i : Nat, i < e.length → sz e (i + 1) (i : Int) ≤ i + 1
theorem b0j {e : List Nd} (h : M1 e = true) : MayP e := by
 simp only [M1, and_eq_true, decide_eq_true_eq] at h
 obtain ⟨h1, h2, h3, h4⟩ := h
 split at h4
 · cases h4
 rename_i V hs
 simp only [and_eq_true, decide_eq_true_eq] at h4
 obtain ⟨k1, k2⟩ := (a2y e e 0 [] V (by simp)).1 hs
 have hA := a6y e e [] [] V rfl k1
 have hah : b7m e := fun i n hn => (hA i n (by simp) hn).2.2
 refine ⟨h1, h2, h3, h4.2, fun i n hn => (hA i n (by simp) hn).1, fun i n hn => (hA i n (by simp) hn).2.1, hah, ?_⟩
 refine b3c e (fun i => sz e (i + 1) (i : Int)) (fun i n hn => ?_) e [] [] V rfl k1 k2 (by simp) rfl (by simp)
 have hil : i < e.length := by rw [nth_getElem?] at hn; exact (List.getElem?_eq_some_iff.1 hn).1
 have hg : e.getD i nd0 = n := by have := a1Y hil; rw [hn] at this; exact (Option.some.inj this).symm
 show sz e (i + 1) (i : Int) = _
 rw [sz, Int.toNat_natCast, hg]
 congr 1
 refine a3a fun k hk => ?_
 have := hah i n hn k hk
 obtain ⟨j, rfl⟩ : ∃ j : Nat, k = j := ⟨k.toNat, by omega⟩
 rw [Int.toNat_natCast]
 exact a6V hah i j (by omega) (by omega)
theorem b2O {g : Int → List Nd → List Nd} {s : Int → Nat} : ∀ (ks : List Int) (o : List Nd) (q : List Int), (∀ k ∈ ks, ∀ o, (g k o).length = o.length + s k) → (a9l g ks o q).1.length = o.length + szL s ks ∧ (a9l g ks o q).2.length = q.length + ks.length
 | [], o, q, _ => by simp [a9l, szL]
 | k :: r, o, q, h => by
   have ih := b2O r (g k o) (q ++ [((g k o).length : Int) - 1]) (fun x hx => h x (List.mem_cons_of_mem _ hx))
   rw [a9l, ih.1, ih.2, h k List.mem_cons_self, szL]
   simp; omega
theorem b1n {e : List Nd} : ∀ (f : Nat) (i : Int) (o : List Nd), (ord e f i o).length = o.length + sz e f i
 | 0, i, o => by simp [ord, sz]
 | f + 1, i, o => by
   rw [ord, sz, length_append, (b2O _ o [] fun k _ o => b1n f k o).1, List.length_singleton]; omega
def b6Z (e : List Nd) (i : Int) : List Nd := if 0 ≤ i ∧ i < e.length ∧ M1 e = true then ord e (i.toNat + 1) i [] else []
theorem b9L {e : List Nd} (i : Int) : (b6Z e i).length ≤ 5001 := by
 unfold b6Z
 split
 · rename_i h
   have hM := b0j h.2.2
   obtain ⟨j, rfl⟩ : ∃ j : Nat, i = j := ⟨i.toNat, by omega⟩
   have := hM.small j (by omega)
   have hl := hM.len
   rw [b1n, Int.toNat_natCast]; simp; omega
 · simp
def c0d : List Nd → List (List UInt8) → List (List UInt8)
 | [], l => l
 | n :: r, l => if n.1 = 3 ∧ n.2.2.2.2.2 ∉ l then c0d r (l ++ [n.2.2.2.2.2]) else c0d r l
def norm (e : List Nd) : List Nd := b6Z e ((e.length : Int) - 1)
def vars (e : List Nd) : List (List UInt8) := c0d (norm e) []
inductive Tr where
 | mk (b : Nd) (ks : List Tr)
mutual
def Tr.size : Tr → Nat
 | .mk b ks => l7 ks + 1
def l7 : List Tr → Nat
 | [] => 0
 | t :: r => t.size + l7 r
end
def roots : List Tr → Nat → List Int
 | [], _ => []
 | t :: r, o => ((o + t.size - 1 : Nat) : Int) :: roots r (o + t.size)
mutual
def flat : Tr → Nat → List Nd
 | .mk b ks, o => B2 ks o ++ [aim b (roots ks o)]
def B2 : List Tr → Nat → List Nd
 | [], _ => []
 | t :: r, o => flat t o ++ B2 r (o + t.size)
end
mutual
def dep : Tr → Int
 | .mk b ks => a3e ks 0 + 1
def a3e : List Tr → Int → Int
 | [], m => m
 | t :: r, m => a3e r (if dep t > m then dep t else m)
end
def Tr.op : Tr → Int
 | .mk b _ => b.1
def blank (n : Nd) : Nd := (n.1, -1, -1, -1, n.2.2.2.2)
mutual
def Emb (e : List Nd) : Nat → Tr → Prop
 | i, .mk b ks => ∃ n, nth e i = some n ∧ b = blank n ∧ n = aim b (kids n) ∧ L8 e i (kids n) ks
def L8 (e : List Nd) (i : Nat) : List Int → List Tr → Prop
 | [], [] => True
 | k :: r, t :: ts => 0 ≤ k ∧ k < i ∧ Emb e k.toNat t ∧ L8 e i r ts
 | _, _ => False
end
theorem Tr.size_pos : ∀ t : Tr, 0 < t.size
 | .mk b ks => by rw [Tr.size]; omega
theorem a0O : ∀ (ks : List Tr) (o : Nat), (roots ks o).length = ks.length
 | [], _ => rfl
 | t :: r, o => by simp [roots, a0O r]
mutual
theorem n6 : ∀ (t : Tr) (o : Nat), (flat t o).length = t.size
 | .mk b ks, o => by rw [flat, length_append, X1 ks o, Tr.size]; simp
theorem X1 : ∀ (ks : List Tr) (o : Nat), (B2 ks o).length = l7 ks
 | [], o => rfl
 | t :: r, o => by rw [B2, length_append, n6 t o, X1 r _, l7]
end
theorem a6Y {e : List Nd} {i : Nat} : ∀ {l : List Int} {ts : List Tr}, L8 e i l ts → l.length = ts.length
 | [], [], _ => rfl
 | k :: r, t :: ts, ⟨_, _, _, h⟩ => by simp [a6Y h]
 | [], _ :: _, h => by simp [L8] at h
 | _ :: _, [], h => by simp [L8] at h
theorem c0p (b : Nd) : ∀ (l m : List Int), l.length = m.length → aim (aim b l) m = aim b m
 | [], [], _ => rfl
 | [a], [x], _ => rfl
 | [a, b'], [x, y], _ => by
   by_cases h : b.1 = 28
   · simp [aim, h]
   · simp [aim, h]
 | a :: b' :: c :: r, x :: y :: z :: s, _ => rfl
 | [], _ :: _, h => by simp at h
 | [_], [], h => by simp at h
 | [_], _ :: _ :: _, h => by simp at h
 | [_, _], [], h => by simp at h
 | [_, _], [_], h => by simp at h
 | [_, _], _ :: _ :: _ :: _, h => by simp at h
 | _ :: _ :: _ :: _, [], h => by simp at h
 | _ :: _ :: _ :: _, [_], h => by simp at h
 | _ :: _ :: _ :: _, [_, _], h => by simp at h
theorem b7v (b : Nd) (l : List Int) : (aim b l).1 = b.1 := by
 match l with
 | [] => rfl
 | [a] => rfl
 | [a, c] => by_cases h : b.1 = 28 <;> simp [aim, h]
 | _ :: _ :: _ :: _ => rfl
theorem b1P (b : Nd) (l : List Int) : (aim b l).2.2.2.2 = b.2.2.2.2 := by
 match l with
 | [] => rfl
 | [a] => rfl
 | [a, c] => by_cases h : b.1 = 28 <;> simp [aim, h]
 | _ :: _ :: _ :: _ => rfl
theorem a5k (b : Nd) (l : List Int) : blank (aim b l) = blank b := by
 simp only [blank, b7v, b1P]
theorem b5v {e : List Nd} (hM : MayP e) : ∀ (m i : Nat), i < m → i < e.length → ∃ t, Emb e i t
 | 0, i, h, _ => by omega
 | m + 1, i, h, hi => by
   have hni := a1Y hi
   have hal := hM.ahead i _ hni
   have hno := hM.node i _ hni
   have each : ∀ l : List Int, (∀ k ∈ l, 0 ≤ k ∧ k < i) → ∃ ts, L8 e i l ts := by
    intro l
    induction l with
    | nil => exact fun _ => ⟨[], trivial⟩
    | cons k l ih =>
      intro hl
      obtain ⟨ts, hts⟩ := ih fun q hq => hl q (List.mem_cons_of_mem _ hq)
      have hk := hl k List.mem_cons_self
      obtain ⟨t, ht⟩ := b5v hM m k.toNat (by omega) (by omega)
      exact ⟨t :: ts, hk.1, hk.2, ht, hts⟩
   obtain ⟨ts, hts⟩ := each _ hal
   have := (of_decide_eq_true hno).2.2.1
   exact ⟨.mk (blank (e.getD i nd0)) ts, _, hni, rfl, this, hts⟩
mutual
theorem b1m (e : List Nd) : ∀ (t : Tr) (f i : Nat) (o : List Nd), Emb e i t → i < f → ord e f (i : Nat) o = o ++ flat t o.length
 | .mk b ks, 0, i, o, _, h => by omega
 | .mk b ks, f + 1, i, o, ⟨n, hn, hb, hna, hks⟩, h => by
   have hil : i < e.length := by rw [nth_getElem?] at hn; exact (List.getElem?_eq_some_iff.1 hn).1
   have hg : e.getD i nd0 = n := by have := a1Y hil; rw [hn] at this; exact (Option.some.inj this).symm
   rw [ord, Int.toNat_natCast, hg, flat]
   have := b2N e ks f i (kids n) o [] hks (by omega)
   rw [this]
   simp only [List.nil_append, List.append_assoc]
   congr 2
   have hl := a6Y hks
   have e1 : aim n (roots ks o.length) = aim b (roots ks o.length) := by
    conv => lhs; rw [hna]
    exact c0p b _ _ (by rw [a0O, hl])
   rw [e1]
theorem b2N (e : List Nd) : ∀ (ts : List Tr) (f i : Nat) (l : List Int) (o : List Nd) (q : List Int), L8 e i l ts → i ≤ f → a9l (ord e f) l o q = (o ++ B2 ts o.length, q ++ roots ts o.length)
 | [], f, i, l, o, q, h, hf => by
   cases l with
   | nil => simp [a9l, B2, roots]
   | cons k l => simp [L8] at h
 | t :: ts, f, i, l, o, q, h, hf => by
   cases l with
   | nil => simp [L8] at h
   | cons k l =>
     obtain ⟨h1, h2, h3, h4⟩ := h
     have hk : ((k.toNat : Nat) : Int) = k := by omega
     have ho := b1m e t f k.toNat o h3 (by omega)
     rw [hk] at ho
     rw [a9l, ho, b2N e ts f i l _ _ h4 hf]
     have hsz := t.size_pos
     have hl : (o ++ flat t o.length).length = o.length + t.size := by rw [length_append, n6]
     rw [hl, B2, roots]
     simp only [List.append_assoc, List.singleton_append]
     congr 3
     omega
end
theorem b7a {e : List Nd} {i : Nat} {t : Tr} (hM : M1 e = true) (hi : i < e.length) (h : Emb e i t) : b6Z e (i : Nat) = flat t 0 := by
 unfold b6Z
 rw [if_pos ⟨by omega, by omega, hM⟩, Int.toNat_natCast, b1m e t (i + 1) i [] h (by omega)]
 simp
def c2i (b : Nd) (m : Nat) : Prop := ∀ l : List Int, l.length = m → (∀ x ∈ l, x ≠ -1) → kids (aim b l) = l
def a5h (b : Nd) (m a : Nat) (op : Int) : Bool := decide (op = 28) == (decide (b.1 = 27) || (decide (b.1 = 28) && (decide (m = 2) && decide (a = 0))))
def K9 (b : Nd) (m : Nat) : List Tr → Nat → Bool
 | [], _ => true
 | t :: r, a => a5h b m a t.op && K9 b m r (a + 1)
mutual
def Valid : Tr → Prop
 | .mk b ks => b = blank b ∧ c2i b ks.length ∧ ks.length ≤ 3 ∧ (1 ≤ b.1 ∧ b.1 ≤ 28 ∧ 0 ≤ b.2.2.2.2.1 ∧ b.2.2.2.2.1 ≤ F2 b.1 ∧ (b.2.2.2.2.2 ≠ [] ↔ (b.1 = 3 ∨ b.1 = 27))) ∧ K9 b ks.length ks 0 = true ∧ L9 ks
def L9 : List Tr → Prop
 | [] => True
 | t :: r => Valid t ∧ L9 r
end
theorem b8C (n : Nd) (h : n = aim (blank n) (kids n)) (hneg : ∀ x ∈ kids n, x ≠ -1) : c2i (blank n) (kids n).length := by
 intro l hl hx
 obtain ⟨op, a, b, c, k, nm⟩ := n
 by_cases h26 : op = 26
 · subst h26
   have hk : kids (26, a, b, c, k, nm) = [a, b, c] := by simp [kids]
   rw [hk] at hl
   match l, hl with
   | [x, y, z], _ => simp [blank, aim, kids]
 by_cases h28 : op = 28
 · subst h28
   by_cases hb : b = -1
   · have hk : kids (28, a, b, c, k, nm) = [a] := by subst hb; simp [kids]
     rw [hk] at hl
     match l, hl with
     | [x], _ => simp [blank, aim, kids]
   · have hk : kids (28, a, b, c, k, nm) = [b, a] := by simp [kids, hb]
     rw [hk] at hl
     match l, hl with
     | [x, y], _ =>
       have : x ≠ -1 := hx x (by simp)
       simp [blank, aim, kids, this]
 by_cases h27 : op = 27
 · subst h27
   by_cases ha : a = -1
   · have hk : kids (27, a, b, c, k, nm) = [] := by subst ha; simp [kids]
     rw [hk] at hl
     match l, hl with
     | [], _ => simp [blank, aim, kids]
   · have hk : kids (27, a, b, c, k, nm) = [a] := by simp [kids, ha]
     rw [hk] at hl
     match l, hl with
     | [x], _ =>
       have : x ≠ -1 := hx x (by simp)
       simp [blank, aim, kids, this]
 by_cases h6 : 6 ≤ op ∧ op ≤ 20
 · have hk : kids (op, a, b, c, k, nm) = [a, b] := by
    simp only [kids]; rw [if_neg h26, if_neg (fun h => h28 h.1), if_neg (fun h => h27 h.1), if_pos h6]
   rw [hk] at hl
   match l, hl with
   | [x, y], _ =>
     have ha : aim (blank (op, a, b, c, k, nm)) [x, y] = (op, x, y, -1, k, nm) := by
      show (if op = 28 then ((op, y, x, -1, k, nm) : Nd) else (op, x, y, -1, k, nm)) = _
      rw [if_neg h28]
     rw [ha]
     simp only [kids]
     rw [if_neg h26, if_neg (fun h => h28 h.1), if_neg (fun h => h27 h.1), if_pos h6]
 by_cases h4 : op = 4 ∨ op = 5 ∨ (21 ≤ op ∧ op ≤ 28)
 · have hk : kids (op, a, b, c, k, nm) = [a] := by
    simp only [kids]; rw [if_neg h26, if_neg (fun h => h28 h.1), if_neg (fun h => h27 h.1), if_neg h6, if_pos h4]
   rw [hk] at hl
   match l, hl with
   | [x], _ =>
     show kids (op, x, -1, -1, k, nm) = [x]
     simp only [kids]
     rw [if_neg h26, if_neg (fun h => h28 h.1), if_neg (fun h => h27 h.1), if_neg h6, if_pos h4]
 · have hk : kids (op, a, b, c, k, nm) = [] := by
    simp only [kids]; rw [if_neg h26, if_neg (fun h => h28 h.1), if_neg (fun h => h27 h.1), if_neg h6, if_neg h4]
   rw [hk] at hl
   match l, hl with
   | [], _ =>
     show kids (op, -1, -1, -1, k, nm) = []
     simp only [kids]
     rw [if_neg h26, if_neg (fun h => h28 h.1), if_neg (fun h => h27 h.1), if_neg h6, if_neg h4]
theorem a7x {e : List Nd} {i : Nat} : ∀ {t : Tr}, Emb e i t → i < e.length
 | .mk b ks, ⟨n, hn, _⟩ => by rw [nth_getElem?] at hn; exact (List.getElem?_eq_some_iff.1 hn).1
theorem a6T {e : List Nd} {i : Nat} {n : Nd} (h : nth e i = some n) : a9k e i = n.1 := by
 rw [nth_getElem?] at h
 rw [a9k, List.getD_eq_getElem?_getD, h]; rfl
theorem a5q {e : List Nd} {i : Nat} : ∀ {t : Tr}, Emb e i t → a9k e i = t.op
 | .mk b ks, ⟨n, hn, hb, _⟩ => by rw [a6T hn, Tr.op, hb]; rfl
theorem c4v {e : List Nd} {n b : Nd} {a : Nat} {k : Int} {t : Tr} (hb : b = blank n) (ht : Emb e k.toNat t) : b3D e n a k = a5h b (kids n).length a t.op := by
 unfold b3D a5h
 rw [a5q ht, show b.1 = n.1 by rw [hb]; rfl]
 by_cases h28 : n.1 = 28
 · have := c5z n h28
   by_cases hb' : n.2.2.1 = -1
   · rw [df (show ¬ n.2.2.1 ≠ -1 from fun h => h hb'), df (show ¬ (kids n).length = 2 from fun h => this.1 h hb')]
   · rw [dt (show n.2.2.1 ≠ -1 from hb'), dt (this.2 hb')]
 · rw [df h28]; simp
theorem b0K {e : List Nd} {n b : Nd} {i : Nat} (hb : b = blank n) : ∀ (l : List Int) (ts : List Tr) (a : Nat), L8 e i l ts → a3i e n l a = K9 b (kids n).length ts a
 | [], [], a, _ => rfl
 | k :: l, t :: ts, a, ⟨_, _, h3, h4⟩ => by rw [a3i, K9, c4v hb h3, b0K hb l ts (a + 1) h4]
 | [], _ :: _, a, h => by simp [L8] at h
 | _ :: _, [], a, h => by simp [L8] at h
mutual
theorem b0E {e : List Nd} (hM : MayP e) : ∀ (t : Tr) (i : Nat), Emb e i t → Valid t
 | .mk b ks, i, ⟨n, hn, hb, hna, hks⟩ => by
   have hno := of_decide_eq_true (hM.node i n hn)
   have hal := hM.ahead i n hn
   have hl := a6Y hks
   have hk3 := a4v n
   have hA := b8C n (by rw [← hb]; exact hna) (fun x hx => by have := hal x hx; omega)
   rw [Valid, ← hl]
   refine ⟨?_, by rw [hb]; exact hA, hk3, ?_, ?_, a8Z hM ks i (kids n) hks⟩
   · rw [hb]; rfl
   · rw [hb]; exact ⟨hno.1, hno.2.1, hno.2.2.2.1, hno.2.2.2.2.1, hno.2.2.2.2.2⟩
   · rw [← b0K (e := e) (i := i) hb (kids n) ks 0 hks]; exact hM.args i n hn
theorem a8Z {e : List Nd} (hM : MayP e) : ∀ (ts : List Tr) (i : Nat) (l : List Int), L8 e i l ts → L9 ts
 | [], i, l, _ => trivial
 | t :: ts, i, l, h => by
   cases l with
   | nil => simp [L8] at h
   | cons k l => obtain ⟨_, _, h3, h4⟩ := h; exact ⟨b0E hM t _ h3, a8Z hM ts i l h4⟩
end
theorem a2t : ∀ (ks : List Tr) (o : Nat) (x : Int), x ∈ roots ks o → (o : Int) ≤ x ∧ x < o + l7 ks
 | [], o, x, h => by simp [roots] at h
 | t :: r, o, x, h => by
   have hs := t.size_pos
   rw [roots] at h
   rw [l7]
   rcases List.mem_cons.1 h with h | h
   · subst h; omega
   · have := a2t r (o + t.size) x h; omega
mutual
theorem a0B : ∀ (t : Tr) (pre suf : List Nd), Valid t → Emb (pre ++ (flat t pre.length ++ suf)) (pre.length + t.size - 1) t
 | .mk b ks, pre, suf, ⟨h1, h2, h3, h4, h5, h6⟩ => by
   have hr := a0O ks pre.length
   have hk : kids (aim b (roots ks pre.length)) = roots ks pre.length := h2 _ hr fun x hx => by have := a2t ks _ x hx; omega
   have hE := a5r ks pre ([aim b (roots ks pre.length)] ++ suf) (pre.length + l7 ks) h6 (Nat.le_refl _)
   refine ⟨aim b (roots ks pre.length), ?_, ?_, by rw [hk], ?_⟩
   · rw [flat, Tr.size, nth_getElem?, List.getElem?_append_right (by omega), List.append_assoc, List.getElem?_append_right (by rw [X1]; omega), X1]
     rw [show pre.length + (l7 ks + 1) - 1 - pre.length - l7 ks = 0 by omega]; rfl
   · rw [a5k]; exact h1
   · rw [hk, flat, Tr.size, List.append_assoc, show pre.length + (l7 ks + 1) - 1 = pre.length + l7 ks by omega]
     exact hE
theorem a5r : ∀ (ks : List Tr) (pre suf : List Nd) (i : Nat), L9 ks → pre.length + l7 ks ≤ i → L8 (pre ++ (B2 ks pre.length ++ suf)) i (roots ks pre.length) ks
 | [], pre, suf, i, _, _ => trivial
 | t :: r, pre, suf, i, ⟨h1, h2⟩, hi => by
   have hs := t.size_pos
   rw [l7] at hi
   have h3 := a0B t pre (B2 r (pre.length + t.size) ++ suf) h1
   have h4 := a5r r (pre ++ flat t pre.length) suf i h2 (by rw [length_append, n6]; omega)
   rw [length_append, n6] at h4
   have e1 : (pre ++ flat t pre.length) ++ (B2 r (pre.length + t.size) ++ suf) = pre ++ (B2 (t :: r) pre.length ++ suf) := by rw [B2]; simp
   have e2 : pre ++ (flat t pre.length ++ (B2 r (pre.length + t.size) ++ suf)) = pre ++ (B2 (t :: r) pre.length ++ suf) := by rw [B2]; simp
   rw [e1] at h4
   rw [e2] at h3
   refine ⟨by omega, by omega, ?_, h4⟩
   rw [Int.toNat_natCast]
   exact h3
end
theorem a9D : ∀ (suf : List Nd) (acc : List Int), (P4 suf acc).take acc.length = acc
 | [], acc => by simp [P4]
 | n :: r, acc => by
   have := a9D r (acc ++ [v7 acc (kids n) 0 + 1])
   rw [P4]
   have h2 := congrArg (List.take acc.length) this
   rw [List.take_take] at h2
   rw [show min acc.length (acc ++ [v7 acc (kids n) 0 + 1]).length = acc.length by simp] at h2
   rw [h2]; simp
theorem b2d : ∀ (suf : List Nd) (acc : List Int) (j : Nat) (n : Nd), nth suf j = some n → (P4 suf acc).getD (acc.length + j) 0 = v7 ((P4 suf acc).take (acc.length + j)) (kids n) 0 + 1
 | [], acc, j, n, h => by simp [nth] at h
 | m :: r, acc, 0, n, h => by
   simp only [nth, Option.some.injEq] at h
   subst h
   rw [P4]
   have ht := a9D r (acc ++ [v7 acc (kids m) 0 + 1])
   have hl : (acc ++ [v7 acc (kids m) 0 + 1]).length = acc.length + 1 := by simp
   rw [hl] at ht
   have h1 : (P4 r (acc ++ [v7 acc (kids m) 0 + 1])).take acc.length = acc := by
    have h2 := congrArg (List.take acc.length) ht
    rw [List.take_take] at h2
    rw [show min acc.length (acc.length + 1) = acc.length by omega] at h2
    rw [h2]; simp
   have h3 : (P4 r (acc ++ [v7 acc (kids m) 0 + 1]))[acc.length]? = some (v7 acc (kids m) 0 + 1) := by
    have h4 := congrArg (fun l => l[acc.length]?) ht
    simp only [List.getElem?_take] at h4
    rw [if_pos (by omega)] at h4
    rw [h4]; simp
   rw [Nat.add_zero, h1, List.getD_eq_getElem?_getD, h3]; rfl
 | m :: r, acc, j + 1, n, h => by
   have ih := b2d r (acc ++ [v7 acc (kids m) 0 + 1]) j n (by simpa [nth] using h)
   have hl : (acc ++ [v7 acc (kids m) 0 + 1]).length + j = acc.length + (j + 1) := by simp; omega
   rw [hl] at ih
   rw [P4]; exact ih
mutual
theorem b4S {e : List Nd} : ∀ (t : Tr) (i : Nat), Emb e i t → (P4 e []).getD i 0 = dep t
 | .mk b ks, i, ⟨n, hn, hb, hna, hks⟩ => by
   have := b2d e [] i n hn
   rw [length_nil, Nat.zero_add] at this
   have hil : i < e.length := by rw [nth_getElem?] at hn; exact (List.getElem?_eq_some_iff.1 hn).1
   rw [this, dep, b2e ks i (kids n) 0 hks hil]
theorem b2e {e : List Nd} : ∀ (ts : List Tr) (i : Nat) (l : List Int) (m : Int), L8 e i l ts → i < e.length → v7 ((P4 e []).take i) l m = a3e ts m
 | [], i, l, m, h, hi => by
   cases l with
   | nil => rfl
   | cons k l => simp [L8] at h
 | t :: ts, i, l, m, h, hi => by
   cases l with
   | nil => simp [L8] at h
   | cons k l =>
     obtain ⟨h1, h2, h3, h4⟩ := h
     have hlen : (P4 e []).length = e.length := by rw [a1R]; simp
     have hk : k < ((P4 e []).take i).length := by rw [List.length_take, hlen]; omega
     have hg : ((P4 e []).take i).getD k.toNat 0 = dep t := by
      rw [← b4S t k.toNat h3, List.getD_eq_getElem?_getD, List.getD_eq_getElem?_getD, List.getElem?_take, if_pos (by omega)]
     rw [v7, if_pos ⟨h1, hk⟩, hg, a3e, b2e ts i l _ h4 hi]
end
theorem a0A {e : List Nd} {t : Tr} (h : Emb e (e.length - 1) t) : depth e = dep t := by
 have hl := a7x h
 have hlen : (P4 e []).length = e.length := by rw [a1R]; simp
 rw [← b4S t _ h, depth, List.getLastD_eq_getLast?, List.getLast?_eq_getElem?, List.getD_eq_getElem?_getD, hlen]
mutual
def wT : Tr → Nat → List Nat
 | .mk b ks, o => wTs ks o ++ (roots ks o).map Int.toNat
def wTs : List Tr → Nat → List Nat
 | [], _ => []
 | t :: r, o => wT t o ++ wTs r (o + t.size)
end
theorem a5O (e : List Nd) : ∀ (a b : List Nd) (i : Nat) (V : List Nat), G9 e (a ++ b) i V = (G9 e a i V).bind fun V' => G9 e b (i + a.length) V'
 | [], b, i, V => rfl
 | n :: a, b, i, V => by
   rw [List.cons_append, G9, G9]
   split
   · rw [a5O e a b]
     have : i + 1 + a.length = i + (n :: a).length := by simp; omega
     rw [this]
   · rfl
theorem b8Y {b : Nd} {l : List Int} (h1 : b = blank b) (hA : kids (aim b l) = l) (h4 : 1 ≤ b.1 ∧ b.1 ≤ 28 ∧ 0 ≤ b.2.2.2.2.1 ∧ b.2.2.2.2.1 ≤ F2 b.1 ∧ (b.2.2.2.2.2 ≠ [] ↔ (b.1 = 3 ∨ b.1 = 27))) : a3t (aim b l) = true := by
 unfold a3t
 have hb : ((aim b l).1, (-1 : Int), (-1 : Int), (-1 : Int), (aim b l).2.2.2.2) = b := by
  have := a5k b l
  rw [← h1] at this
  exact this
 rw [hb, hA, b7v, b1P]
 exact dt ⟨h4.1, h4.2.1, rfl, h4.2.2.1, h4.2.2.2.1, h4.2.2.2.2⟩
mutual
theorem a8F : ∀ (t : Tr) (pre suf : List Nd) (V : List Nat), Valid t → G9 (pre ++ (flat t pre.length ++ suf)) (flat t pre.length) pre.length V = some (V ++ wT t pre.length)
 | .mk b ks, pre, suf, V, ⟨h1, h2, h3, h4, h5, h6⟩ => by
   have hr := a0O ks pre.length
   have hk : kids (aim b (roots ks pre.length)) = roots ks pre.length := h2 _ hr fun x hx => by have := a2t ks _ x hx; omega
   have hE := a5r ks pre ([aim b (roots ks pre.length)] ++ suf) (pre.length + l7 ks) h6 (Nat.le_refl _)
   have hS := a6z ks pre ([aim b (roots ks pre.length)] ++ suf) V h6
   have hbl : b = blank (aim b (roots ks pre.length)) := by rw [a5k]; exact h1
   rw [flat, List.append_assoc, a5O, hS, bind_some, X1, G9]
   have hargs := b0K (e := pre ++ (B2 ks pre.length ++ ([aim b (roots ks pre.length)] ++ suf))) hbl (roots ks pre.length) ks 0 hE
   rw [hk, hr] at hargs
   have hr2 : a5M (pre.length + l7 ks) (kids (aim b (roots ks pre.length))) = true := by
    rw [hk]
    refine List.all_eq_true.2 fun x hx => dt ?_
    have := a2t ks _ x hx
    omega
   rw [if_pos ⟨b8Y h1 hk h4, hr2, by rw [hk, hargs, h5]⟩]
   rw [hk, G9, wT, List.append_assoc]
theorem a6z : ∀ (ks : List Tr) (pre suf : List Nd) (V : List Nat), L9 ks → G9 (pre ++ (B2 ks pre.length ++ suf)) (B2 ks pre.length) pre.length V = some (V ++ wTs ks pre.length)
 | [], pre, suf, V, _ => by simp [B2, G9, wTs]
 | t :: r, pre, suf, V, ⟨h1, h2⟩ => by
   have h3 := a8F t pre (B2 r (pre.length + t.size) ++ suf) V h1
   have h4 := a6z r (pre ++ flat t pre.length) suf (V ++ wT t pre.length) h2
   rw [length_append, n6] at h4
   have e1 : (pre ++ flat t pre.length) ++ (B2 r (pre.length + t.size) ++ suf) = pre ++ (B2 (t :: r) pre.length ++ suf) := by rw [B2]; simp
   have e2 : pre ++ (flat t pre.length ++ (B2 r (pre.length + t.size) ++ suf)) = pre ++ (B2 (t :: r) pre.length ++ suf) := by rw [B2]; simp
   rw [e1] at h4
   rw [e2] at h3
   conv => lhs; arg 2; rw [B2]
   rw [a5O, h3, bind_some, n6, h4, wTs, List.append_assoc]
end
mutual
theorem b2c (x : Nat) : ∀ (t : Tr) (o : Nat), (wT t o).count x = if o ≤ x ∧ x + 1 < o + t.size then 1 else 0
 | .mk b ks, o => by
   have := a9B x ks o
   rw [wT, List.count_append, this, Tr.size]
   by_cases h : o ≤ x ∧ x < o + l7 ks
   · rw [if_pos h, if_pos (by omega)]
   · rw [if_neg h, if_neg (by omega)]
theorem a9B (x : Nat) : ∀ (ks : List Tr) (o : Nat), (wTs ks o).count x + ((roots ks o).map Int.toNat).count x = if o ≤ x ∧ x < o + l7 ks then 1 else 0
 | [], o => by rw [if_neg (by rw [l7]; omega)]; rfl
 | t :: r, o => by
   have h1 := b2c x t o
   have h2 := a9B x r (o + t.size)
   have hs := t.size_pos
   rw [wTs, roots, l7, List.count_append, List.map_cons, List.count_cons, Int.toNat_natCast, h1]
   by_cases hx : o + t.size - 1 = x
   · have e : ((o + t.size - 1 == x) = true) := beq_iff_eq.2 hx
     rw [if_pos e, if_neg (by omega), if_pos (by omega)]
     rw [if_neg (by omega)] at h2
     omega
   · have e : ¬ ((o + t.size - 1 == x) = true) := fun h => hx (beq_iff_eq.1 h)
     rw [if_neg e]
     by_cases h3 : o ≤ x ∧ x + 1 < o + t.size
     · rw [if_neg (by omega)] at h2
       rw [if_pos h3, if_pos (by omega)]; omega
     · rw [if_neg h3]
       by_cases h4 : o + t.size ≤ x ∧ x < o + t.size + l7 r
       · rw [if_pos h4] at h2
         rw [if_pos (by omega)]; omega
       · rw [if_neg h4] at h2
         rw [if_neg (by omega)]; omega
end
theorem b2D {t : Tr} (hv : Valid t) : M1 (flat t 0) = (decide (t.size ≤ 5000) && (decide (t.op ≠ 28) && decide (dep t ≤ 40))) := by
 have hs := t.size_pos
 have hlen := n6 t 0
 have hne : flat t 0 ≠ [] := fun h => by rw [h] at hlen; simp at hlen; omega
 have hE := a0B t [] [] hv
 simp only [List.nil_append, List.append_nil, length_nil, Nat.zero_add] at hE
 have hS := a8F t [] [] [] hv
 simp only [List.nil_append, List.append_nil, length_nil] at hS
 have hc := fun x => b2c x t 0
 have hnd : (wT t 0).Nodup := (a5H _).2 fun j => by rw [hc j]; split <;> omega
 have hsc := (a2y (flat t 0) (flat t 0) 0 [] (wT t 0) (by simp)).2 ⟨hS, hnd⟩
 have hall : ((List.range (t.size - 1)).all fun j => decide (j ∈ wT t 0)) = true := List.all_eq_true.2 fun j hj => by
  have h1 := List.mem_range.1 hj
  have := hc j
  rw [if_pos (by omega)] at this
  exact dt (List.count_pos_iff.1 (by omega))
 have hE' : Emb (flat t 0) ((flat t 0).length - 1) t := by rw [hlen]; exact hE
 unfold M1
 rw [hsc, hlen, dt hne, Bool.true_and, a5q hE, a0A hE']
 simp only [hall, Bool.true_and]
theorem b5D (e : List Nd) (S : Nat → Nat) (hS : ∀ i n, nth e i = some n → S i = 1 + szL (fun k => S k.toNat) (kids n)) : ∀ (suf pre : List Nd) (V V' : List Nat), e = pre ++ suf → G9 e suf pre.length V = some V' → V'.Nodup →
  (∀ x ∈ V, x < pre.length) → a1F S V pre.length = pre.length → a1F S V' e.length = e.length
 | [], pre, V, V', h, hs, hn, hV, hU => by
   cases hs
   rw [h]; simpa using hU
 | n :: suf, pre, V, V', h, hs, hn, hV, hU => by
   rw [G9] at hs
   split at hs
   case isFalse => cases hs
   rename_i hc
   have hpl : (pre ++ [n]).length = pre.length + 1 := by simp
   have hi : nth e pre.length = some n := by rw [h, nth_getElem?]; simp
   obtain ⟨W, rfl⟩ := a2Y e suf _ _ _ hs
   have hn1 := (List.nodup_append.1 hn).1
   have hr : ∀ k ∈ kids n, 0 ≤ k ∧ k < pre.length := fun k hk => by simpa using List.all_eq_true.1 hc.2.1 k hk
   have hV' : ∀ x ∈ V ++ (kids n).map Int.toNat, x < pre.length := fun x hx => by
    rcases List.mem_append.1 hx with hx | hx
    · exact hV x hx
    · obtain ⟨k, hk, rfl⟩ := List.mem_map.1 hx
      have := hr k hk; omega
   have hU' := a5g S pre.length (kids n) V hn1 hr
   have hSi := hS _ _ hi
   have hSU : a1F S (V ++ (kids n).map Int.toNat) (pre.length + 1) = pre.length + 1 := by
    rw [a1F, if_neg (fun hm => by have := hV' _ hm; omega)]; omega
   exact b5D e S hS suf (pre ++ [n]) _ _ (by rw [h]; simp) (by rw [hpl]; exact hs) hn (fun x hx => by have := hV' x hx; rw [hpl]; omega) (by rw [hpl]; exact hSU)
theorem a9w (S : Nat → Nat) (V : List Nat) : ∀ i, (∀ j, j < i → j ∈ V) → a1F S V i = 0
 | 0, _ => rfl
 | i + 1, h => by rw [a1F, a9w S V i (fun j hj => h j (by omega)), if_pos (h i (by omega))]
theorem c6A {e : List Nd} {i : Nat} {t : Tr} (h : Emb e i t) (f : Nat) (hf : i < f) : sz e f (i : Int) = t.size := by
 have h1 := b1n (e := e) f (i : Int) []
 rw [b1m e t f i [] h hf] at h1
 simp only [List.nil_append, length_nil, n6, Nat.zero_add] at h1
 exact h1.symm
theorem a8o {e : List Nd} (h : M1 e = true) : ∃ t, Emb e (e.length - 1) t ∧ Valid t ∧ t.size = e.length ∧ t.op ≠ 28 ∧ dep t = depth e ∧ dep t ≤ 40 ∧ t.size ≤ 5000 := by
 have hM := b0j h
 have hpos := List.length_pos_iff.2 hM.ne
 obtain ⟨t, ht⟩ := b5v hM e.length (e.length - 1) (by omega) (by omega)
 have hd := a0A ht
 have hop := a5q ht
 have hsize : t.size = e.length := by
  have h' := h
  simp only [M1, and_eq_true, decide_eq_true_eq] at h'
  obtain ⟨h1, h2, h3, h4⟩ := h'
  split at h4
  · cases h4
  rename_i V hs
  simp only [and_eq_true, decide_eq_true_eq] at h4
  obtain ⟨k1, k2⟩ := (a2y e e 0 [] V (by simp)).1 hs
  have hlt := a8G e (e.length - 1) e 0 [] V k1 (by simp) (by omega)
  have hU := b5D e (fun i => sz e (i + 1) (i : Int)) (fun i n hn => ?_) e [] [] V rfl k1 k2 (by simp) rfl
  · obtain ⟨m, hm⟩ : ∃ m, e.length = m + 1 := ⟨e.length - 1, by omega⟩
    rw [hm, a1F, a9w _ V m (fun j hj => ?_), if_neg (fun hh => by have := hlt m hh; omega)] at hU
    · have hm1 : e.length - 1 = m := by omega
      rw [hm1] at ht
      have := c6A ht (m + 1) (by omega)
      have hU2 : 0 + sz e (m + 1) (m : Int) = m + 1 := hU
      omega
    · have := List.all_eq_true.1 h4.1 j (List.mem_range.2 (by omega))
      exact of_decide_eq_true this
  · have hil : i < e.length := by rw [nth_getElem?] at hn; exact (List.getElem?_eq_some_iff.1 hn).1
    have hg : e.getD i nd0 = n := by have := a1Y hil; rw [hn] at this; exact (Option.some.inj this).symm
    show sz e (i + 1) (i : Int) = _
    rw [sz, Int.toNat_natCast, hg]
    congr 1
    refine a3a fun k hk => ?_
    have := hM.ahead i n hn k hk
    obtain ⟨j, rfl⟩ : ∃ j : Nat, k = j := ⟨k.toNat, by omega⟩
    rw [Int.toNat_natCast]
    exact a6V hM.ahead i j (by omega) (by omega)
 exact ⟨t, ht, b0E hM t _ ht, hsize, by rw [← hop]; exact hM.last, hd.symm, by rw [← hd]; exact hM.deep, by rw [hsize]; exact hM.len⟩
theorem a2U {e : List Nd} {t : Tr} (h : M1 e = true) (ht : Emb e (e.length - 1) t) : norm e = flat t 0 := by
 have hpos := List.length_pos_iff.2 (b0j h).ne
 rw [norm, show ((e.length : Int) - 1) = ((e.length - 1 : Nat) : Int) by omega]
 exact b7a h (by omega) ht
theorem b1i {t : Tr} (hv : Valid t) (hm : M1 (flat t 0) = true) : norm (flat t 0) = flat t 0 := by
 have hE := a0B t [] [] hv
 simp only [List.nil_append, List.append_nil, length_nil, Nat.zero_add] at hE
 exact a2U hm (by rw [n6]; exact hE)
theorem b2I {e : List Nd} (h : M1 e = true) : M1 (norm e) = true ∧ (norm e).length = e.length ∧ depth (norm e) = depth e ∧ norm (norm e) = norm e := by
 obtain ⟨t, h1, h2, h3, h4, h5, h6, h7⟩ := a8o h
 have hn := a2U h h1
 have hm : M1 (flat t 0) = true := by rw [b2D h2, dt h7, dt h4, dt h6]; rfl
 have hE := a0B t [] [] h2
 simp only [List.nil_append, List.append_nil, length_nil, Nat.zero_add] at hE
 refine ⟨by rw [hn]; exact hm, by rw [hn, n6, h3], ?_, by rw [hn]; exact b1i h2 hm⟩
 rw [hn, a0A (t := t) (by rw [n6]; exact hE), h5]
theorem a4H {e : List Nd} : (norm e).length ≤ 5001 := b9L _
theorem a2Z (p : Int) : shift p (-1) = -1 := by unfold shift; rw [if_neg (by decide)]
theorem N6 {p x : Int} (h : 0 ≤ x) (h2 : x + p ≤ 1000000000) (hp : 0 ≤ p) : shift p x = x + p := by
 unfold shift; rw [if_pos h, wr (by omega)]
theorem c5B {b : Nd} (hb : b = blank b) (p : Int) (hp : 0 ≤ p) : ∀ l : List Int, l.length ≤ 3 → (∀ x ∈ l, 0 ≤ x ∧ x + p ≤ 1000000000) → mv p (aim b l) = aim b (l.map fun x => x + p)
 | [], _, _ => by
   rw [hb]; simp [aim, mv, blank, a2Z]
 | [x], _, h => by
   have hx := h x (by simp)
   rw [hb]; simp [aim, mv, blank, a2Z, N6 hx.1 hx.2 hp]
 | [x, y], _, h => by
   have hx := h x (by simp)
   have hy := h y (by simp)
   rw [hb]
   by_cases h28 : b.1 = 28
   · simp [aim, mv, blank, a2Z, N6 hx.1 hx.2 hp, N6 hy.1 hy.2 hp, h28]
   · simp [aim, mv, blank, a2Z, N6 hx.1 hx.2 hp, N6 hy.1 hy.2 hp, h28]
 | [x, y, z], _, h => by
   have hx := h x (by simp)
   have hy := h y (by simp)
   have hz := h z (by simp)
   rw [hb]; simp [aim, mv, blank, N6 hx.1 hx.2 hp, N6 hy.1 hy.2 hp, N6 hz.1 hz.2 hp]
 | _ :: _ :: _ :: _ :: _, h, _ => by simp at h
theorem d1F {e : List Nd} (h : M1 e = true) : ∃ V, G9 e e 0 [] = some V ∧ ∀ x, V.count x = if x + 1 < e.length then 1 else 0 := by
 simp only [M1, and_eq_true, decide_eq_true_eq] at h
 obtain ⟨h1, h2, h3, h4⟩ := h
 split at h4
 · cases h4
 rename_i V hs
 simp only [and_eq_true, decide_eq_true_eq] at h4
 obtain ⟨k1, k2⟩ := (a2y e e 0 [] V (by simp)).1 hs
 have hpos := List.length_pos_iff.2 h1
 have hlt := a8G e (e.length - 1) e 0 [] V k1 (by simp) (by omega)
 refine ⟨V, k1, fun x => ?_⟩
 by_cases hx : x + 1 < e.length
 · rw [if_pos hx]
   have hm : x ∈ V := of_decide_eq_true (List.all_eq_true.1 h4.1 x (List.mem_range.2 (by omega)))
   have := (a5H V).1 k2 x
   have := List.count_pos_iff.2 hm
   omega
 · rw [if_neg hx]
   exact List.count_eq_zero.2 fun hm => by have := hlt x hm; omega
theorem a1b : ∀ t : Tr, 1 ≤ dep t
 | .mk b ks => by
   rw [dep]
   have : ∀ (ks : List Tr) (m : Int), 0 ≤ m → 0 ≤ a3e ks m := by
    intro ks
    induction ks with
    | nil => intro m h; exact h
    | cons t r ih =>
      intro m h
      rw [a3e]
      exact ih _ (by split <;> omega)
   have := this ks 0 (by omega)
   omega
theorem b0v (e : List Nd) : ∀ (suf pre : List Nd) (V V' : List Nat), e = pre ++ suf → G9 e suf pre.length V = some V' → ∀ x ∈ V', x ∈ V ∨ ∃ i n k, nth e i = some n ∧ k ∈ kids n ∧ x = k.toNat
 | [], pre, V, V', h, hs, x, hx => by cases hs; exact .inl hx
 | n :: suf, pre, V, V', h, hs, x, hx => by
   rw [G9] at hs
   split at hs
   case isFalse => cases hs
   have hpl : (pre ++ [n]).length = pre.length + 1 := by simp
   rcases b0v e suf (pre ++ [n]) _ _ (by rw [h]; simp) (by rw [hpl]; exact hs) x hx with hx | hx
   · rcases List.mem_append.1 hx with hx | hx
     · exact .inl hx
     · obtain ⟨k, hk, rfl⟩ := List.mem_map.1 hx
       exact .inr ⟨pre.length, n, k, by rw [h, nth_getElem?]; simp, hk, rfl⟩
   · exact .inr hx
theorem b8U {e : List Nd} (h : M1 e = true) (j : Nat) (hj : j + 1 < e.length) : ∃ i n k, nth e i = some n ∧ k ∈ kids n ∧ k.toNat = j := by
 obtain ⟨V, hs, hc⟩ := d1F h
 have hm : j ∈ V := List.count_pos_iff.1 (by rw [hc, if_pos hj]; omega)
 rcases b0v e e [] [] V rfl hs j hm with hx | ⟨i, n, k, h1, h2, h3⟩
 · cases hx
 · exact ⟨i, n, k, h1, h2, h3.symm⟩
theorem b8T {e : List Nd} (h : M1 e = true) (P : Nat → Prop) (hP : ∀ i n k, nth e i = some n → k ∈ kids n → P k.toNat → P i) : ∀ (m j : Nat), j + m = e.length - 1 → j < e.length → P j → P (e.length - 1)
 | 0, j, hm, hj, hp => by rw [← hm]; exact hp
 | m + 1, j, hm, hj, hp => by
   obtain ⟨i, n, k, h1, h2, h3⟩ := b8U h j (by omega)
   have hil : i < e.length := by rw [nth_getElem?] at h1; exact (List.getElem?_eq_some_iff.1 h1).1
   have := (b0j h).ahead i n h1 k h2
   have hji : j < i := by omega
   exact b8T h P hP (e.length - 1 - i) i (by omega) hil (hP i n k h1 h2 (by rw [h3]; exact hp))
termination_by m => m
decreasing_by omega
mutual
theorem a6N {e : List Nd} : ∀ (t u : Tr) (i : Nat), Emb e i t → Emb e i u → t = u
 | .mk b ks, .mk c ls, i, ⟨n, h1, h2, h3, h4⟩, ⟨m, g1, g2, g3, g4⟩ => by
   rw [h1] at g1
   obtain rfl := Option.some.inj g1
   rw [h2, g2, b2h ks ls i _ h4 g4]
theorem b2h {e : List Nd} : ∀ (ts us : List Tr) (i : Nat) (l : List Int), L8 e i l ts → L8 e i l us → ts = us
 | [], [], i, l, _, _ => rfl
 | t :: ts, u :: us, i, k :: l, ⟨_, _, h3, h4⟩, ⟨_, _, g3, g4⟩ => by
   rw [a6N t u _ h3 g3, b2h ts us i l h4 g4]
 | [], _ :: _, i, [], h, g => by simp [L8] at g
 | [], _ :: _, i, _ :: _, h, g => by simp [L8] at h
 | _ :: _, [], i, [], h, g => by simp [L8] at h
 | _ :: _, [], i, _ :: _, h, g => by simp [L8] at g
 | _ :: _, _ :: _, i, [], h, g => by simp [L8] at h
end
theorem c3M {op : Int} (hop : op = 4 ∨ op = 5 ∨ (21 ≤ op ∧ op ≤ 25)) (a n : Int) (nm : List UInt8) : kids (op, a, -1, -1, n, nm) = [a] := by
 simp only [kids]
 rw [if_neg (by omega), if_neg (by omega), if_neg (by omega), if_neg (by omega), if_pos (by omega)]
end Go.Proofs.YtlobhcgbmpcdlaaGreatDoor.R
end
