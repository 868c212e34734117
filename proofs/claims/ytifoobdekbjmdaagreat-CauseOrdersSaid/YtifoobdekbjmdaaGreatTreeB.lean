/-
  OUR OWN: what the functions of package tree and of its document come to, in plain Lean: lists of nodes, put together.
-/
import Derived.Test.YtifoobdekbjmdaaGreatTreeA
namespace Go.Proofs.YtifoobdekbjmdaaGreat.R
open Go Go.Bm Go.Proofs
set_option linter.unusedVariables false
set_option linter.unusedSimpArgs false
set_option maxRecDepth 4000

theorem move_eq (n : Nd) (by_ : Int) : c31 T.rf n by_ = some (mv by_ n) := or31 (by
  obtain ⟨op, a, b, c, n, nm⟩ := n
  simp only [r31, mv, shift]
  by_cases ha : 0 ≤ a <;> by_cases hb : 0 ≤ b <;> by_cases hc : 0 ≤ c <;> simp only [ge_iff_le, ha, hb, hc, decide_true, decide_false, cond_true, cond_false, if_true, if_false])

theorem refBehind_loop (by_ : Int) : ∀ (suf pre out : List Nd), out.length + suf.length ≤ 274877906944 → pre.length + suf.length ≤ 274877906944 →
    k13 T.rb out (pre ++ suf) by_ (pre.length : Nat) = some (out ++ suf.map (mv by_))
  | [], pre, out, h, h2 => ob13 (by
    simp only [b13, lt_end, lt_self, List.append_nil, cond_false, List.map_nil, List.append_nil])
  | x :: suf, pre, out, h, h2 => ob13 (by
    simp only [List.length_cons] at h h2
    have ih := refBehind_loop by_ suf (pre ++ [x]) (out ++ [mv by_ x]) (by simp; omega) (by simp; omega)
    simp only [List.append_assoc, List.singleton_append] at ih
    simp only [b13, lt_mid, inb_mid, nth_mid, cond_true, Option.bind_some, move_eq, ble_most (show out.length + 1 ≤ 274877906944 by omega), Bool.and_true, next_mid pre x (by omega)]
    rw [List.map_cons]
    exact ih)

theorem refBehind_eq {out e : List Nd} (h : out.length + e.length ≤ 274877906944) : c30 T.rf out e = some (out ++ e.map (mv out.length)) := or30 (by
  have := refBehind_loop out.length e [] out h (by simp; omega)
  simp only [List.nil_append, List.length_nil] at this
  simp only [r30]
  rw [show (0 : Int) = ((0 : Nat) : Int) from rfl, this]; rfl)

theorem leaf_eq (op n : Int) (nm : List UInt8) : c28 T.rf op n nm = some (op, -1, -1, -1, n, nm) := or28 rfl

/-- Parts put together: the nodes, the operands' numbers, the last argument's. -/
def joinL (op : Int) : List (List Nd) → List Nd → List Int → Int → Option (List Nd × List Int × Int)
  | [], o, ks, l => some (o, ks, l)
  | p :: r, o, ks, l => if p = [] then none else
    let o1 := o ++ p.map (mv o.length)
    if op = 27 then joinL op r (o1 ++ [(28, (o1.length : Int) - 1, l, -1, 0, [])]) (ks ++ [(o1.length : Int) - 1]) o1.length
    else joinL op r o1 (ks ++ [(o1.length : Int) - 1]) l

def total : List (List Nd) → Nat
  | [] => 0
  | p :: r => p.length + 1 + total r

/-- The operands' numbers that the program keeps. -/
def keptK (op : Int) (ks : List Int) (l : Int) : List Int := if op = 27 then (if l = -1 then [] else [l]) else ks

theorem len_ne {p : List Nd} (h : p ≠ []) : (((p.length : Nat) : Int) == 0) = false := bf (by
  have := List.length_pos_iff.2 h; omega)

theorem refJoin_loop (op : Int) : ∀ (suf pre : List (List Nd)) (o : List Nd) (ks : List Int) (l : Int), o.length + total suf ≤ 274877906944 → pre.length + suf.length ≤ 274877906944 → ks.length + suf.length ≤ 274877906944 →
    k14 T.rb o ks op (pre ++ suf) l (pre.length : Nat) = some (match joinL op suf o ks l with
      | none => .inl []
      | some (o', ks', l') => .inr (o', ks', l'))
  | [], pre, o, ks, l, h, h2, h3 => ob14 (by
    simp only [b14, lt_end, lt_self, List.append_nil, cond_false, joinL])
  | p :: suf, pre, o, ks, l, h, h2, h3 => ob14 (by
    simp only [total, List.length_cons] at h h2 h3
    simp only [b14, lt_mid, inb_mid, nth_mid, cond_true, Option.bind_some, joinL]
    by_cases hp : p = []
    · subst hp; rfl
    have hp' := List.length_pos_iff.2 hp
    rw [len_ne hp, cond_false, if_neg hp, refBehind_eq (by omega), Option.bind_some]
    have hol : (o ++ p.map (mv o.length)).length = o.length + p.length := by simp
    have hw : IntKind.i64.wrap (((o ++ p.map (mv o.length)).length : Int) - 1) = ((o ++ p.map (mv o.length)).length : Int) - 1 := wr (by omega)
    rw [ble_most (show ks.length + 1 ≤ 274877906944 by omega), hw]
    simp only [Bool.and_true, cond_true]
    by_cases h27 : op = 27
    · subst h27
      have ih := refJoin_loop 27 suf (pre ++ [p]) ((o ++ p.map (mv o.length)) ++ [(28, ((o ++ p.map (mv o.length)).length : Int) - 1, l, -1, 0, [])]) (ks ++ [((o ++ p.map (mv o.length)).length : Int) - 1]) (o ++ p.map (mv o.length)).length
        (by simp only [List.length_append, List.length_map, List.length_singleton]; omega) (by simp only [List.length_append, List.length_singleton]; omega) (by simp only [List.length_append, List.length_singleton]; omega)
      simp only [List.append_assoc, List.singleton_append] at ih
      simp only [if_true, Int.reduceBEq, cond_true, leaf_eq, Option.bind_some, ble_most (show (o ++ p.map (mv o.length)).length + 1 ≤ 274877906944 by omega), Bool.and_true, next_mid pre p (by omega)]
      simpa only [List.append_assoc] using ih
    · have ih := refJoin_loop op suf (pre ++ [p]) (o ++ p.map (mv o.length)) (ks ++ [((o ++ p.map (mv o.length)).length : Int) - 1]) l
        (by omega) (by simp only [List.length_append, List.length_singleton]; omega) (by simp only [List.length_append, List.length_singleton]; omega)
      simp only [List.append_assoc, List.singleton_append] at ih
      simp only [if_neg h27, bf h27, cond_false, next_mid pre p (by omega)]
      simpa only [List.append_assoc] using ih)

def join (op n : Int) (nm : List UInt8) (parts : List (List Nd)) : List Nd :=
  if op = 28 then [] else if op ≠ 27 ∧ (kids (op, -1, -1, -1, n, nm)).length ≠ parts.length then [] else
  match joinL op parts [] [] (-1) with
  | none => []
  | some (o, ks, l) => o ++ [aim (op, -1, -1, -1, n, nm) (keptK op ks l)]

theorem joinL_len (op : Int) : ∀ (ps : List (List Nd)) (o : List Nd) (ks : List Int) (l : Int) (o' : List Nd) (ks' : List Int) (l' : Int), joinL op ps o ks l = some (o', ks', l') → o'.length ≤ o.length + total ps
  | [], o, ks, l, o', ks', l', h => by simp only [joinL] at h; cases h; simp [total]
  | p :: r, o, ks, l, o', ks', l', h => by
    simp only [joinL] at h
    split at h
    · cases h
    split at h
    · have := joinL_len op r _ _ _ _ _ _ h
      simp only [List.length_append, List.length_map, List.length_singleton, total] at this ⊢; omega
    · have := joinL_len op r _ _ _ _ _ _ h
      simp only [List.length_append, List.length_map, total] at this ⊢; omega

theorem refJoin_eq {op n : Int} {nm : List UInt8} {ps : List (List Nd)} (h : total ps < 274877906944) (h2 : ps.length < 274877906944) : c27 T.rf op n nm ps = some (join op n nm ps) := or27 (by
  have hl := refJoin_loop op ps [] [] [] (-1) (by simpa using by omega) (by simpa using by omega) (by simpa using by omega)
  simp only [List.nil_append, List.length_nil] at hl
  simp only [r27, join, leaf_eq, refKids_eq, Option.bind_some]
  by_cases h28 : op = 28
  · rw [bt h28, cond_true, if_pos h28]
  rw [bf h28, cond_false, if_neg h28, show (0 : Int) = ((0 : Nat) : Int) from rfl, hl]
  by_cases h27 : op = 27
  · subst h27
    rw [nbt rfl, cond_false, if_neg (by intro hh; exact hh.1 rfl)]
    cases hj : joinL 27 ps [] [] (-1) with
    | none => rfl
    | some x =>
      obtain ⟨o, ks, l⟩ := x
      have := joinL_len 27 ps _ _ _ _ _ _ hj
      simp only [List.length_nil, Nat.zero_add] at this
      simp only [Option.bind_some, Int.reduceBEq, ble_most (show o.length + 1 ≤ 274877906944 by omega), Bool.and_true, cond_true, keptK, if_true]
      by_cases hl1 : l = -1
      · subst hl1; rfl
      · rw [if_neg hl1]; rfl
  · rw [nbf h27, cond_true]
    by_cases hn : (kids (op, -1, -1, -1, n, nm)).length = ps.length
    · rw [nbt (by rw [hn]), cond_false, if_neg (by intro hh; exact hh.2 hn)]
      cases hj : joinL op ps [] [] (-1) with
      | none => rfl
      | some x =>
        obtain ⟨o, ks, l⟩ := x
        have := joinL_len op ps _ _ _ _ _ _ hj
        simp only [List.length_nil, Nat.zero_add] at this
        simp only [Option.bind_some, bf h27, cond_false, aim_eq, ble_most (show o.length + 1 ≤ 274877906944 by omega), Bool.and_true, cond_true, keptK, if_neg h27]
    · rw [nbf (by omega), cond_true, if_pos ⟨h27, hn⟩])

end Go.Proofs.YtifoobdekbjmdaaGreat.R
