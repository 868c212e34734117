/-
  OUR OWN: what the functions of package tree and of its document come to, in plain Lean: lists of nodes, put together.
-/
import Derived.Test.YtcmdngadpplodaaTreeA
namespace Go.Proofs.Ytcmdngadpplodaa.R
open Go Go.Bm Go.Proofs
set_option linter.unusedVariables false
set_option linter.unusedSimpArgs false
set_option maxRecDepth 4000

theorem few_eq (e : List Nd) (n : Int) : c1 T.rf e n = some (decide ((e.length : Int) ≤ n)) := or1 rfl

theorem behind_loop (by_ : Int) : ∀ (suf pre out : List Nd), out.length + suf.length ≤ 274877906944 → pre.length + suf.length ≤ 274877906944 →
    k2 T.rb out by_ (pre ++ suf) ((pre ++ suf).length : Nat) (pre.length : Nat) = some (out ++ suf.map (mv by_))
  | [], pre, out, h, h2 => ob2 (by
    simp only [b2, lt_end, lt_self, List.append_nil, cond_false, List.map_nil, List.append_nil])
  | x :: suf, pre, out, h, h2 => ob2 (by
    simp only [List.length_cons] at h h2
    have ih := behind_loop by_ suf (pre ++ [x]) (out ++ [mv by_ x]) (by simp; omega) (by simp; omega)
    simp only [List.append_assoc, List.singleton_append] at ih
    obtain ⟨op, a, b, c, n, nm⟩ := x
    simp only [b2, lt_mid, inb_mid, nth_mid, cond_true, Option.bind_some, ble_most (show out.length + 1 ≤ 274877906944 by omega), Bool.and_true, next_mid pre (op, a, b, c, n, nm) (by omega)]
    rw [List.map_cons]
    refine Eq.trans ?_ ih
    simp only [mv, shift]
    by_cases ha : 0 ≤ a <;> by_cases hb : 0 ≤ b <;> by_cases hc : 0 ≤ c <;> simp only [ge_iff_le, ha, hb, hc, decide_true, decide_false, cond_true, cond_false, if_true, if_false])

theorem behind_eq {out e : List Nd} (h : out.length + e.length ≤ 274877906944) : c5 T.rf out e = some (out ++ e.map (mv out.length)) := or5 (by
  have := behind_loop out.length e [] out h (by simp; omega)
  simp only [List.nil_append, List.length_nil] at this
  simp only [r5]
  rw [show (0 : Int) = ((0 : Nat) : Int) from rfl, this]; rfl)

theorem move_eq (n : Nd) (by_ : Int) : c41 T.rf n by_ = some (mv by_ n) := or41 (by
  obtain ⟨op, a, b, c, n, nm⟩ := n
  simp only [r41, mv, shift]
  by_cases ha : 0 ≤ a <;> by_cases hb : 0 ≤ b <;> by_cases hc : 0 ≤ c <;> simp only [ge_iff_le, ha, hb, hc, decide_true, decide_false, cond_true, cond_false, if_true, if_false])

theorem refBehind_loop (by_ : Int) : ∀ (suf pre out : List Nd), out.length + suf.length ≤ 274877906944 → pre.length + suf.length ≤ 274877906944 →
    k53 T.rb out (pre ++ suf) by_ (pre.length : Nat) = some (out ++ suf.map (mv by_))
  | [], pre, out, h, h2 => ob53 (by
    simp only [b53, lt_end, lt_self, List.append_nil, cond_false, List.map_nil, List.append_nil])
  | x :: suf, pre, out, h, h2 => ob53 (by
    simp only [List.length_cons] at h h2
    have ih := refBehind_loop by_ suf (pre ++ [x]) (out ++ [mv by_ x]) (by simp; omega) (by simp; omega)
    simp only [List.append_assoc, List.singleton_append] at ih
    simp only [b53, lt_mid, inb_mid, nth_mid, cond_true, Option.bind_some, move_eq, ble_most (show out.length + 1 ≤ 274877906944 by omega), Bool.and_true, next_mid pre x (by omega)]
    rw [List.map_cons]
    exact ih)

theorem refBehind_eq {out e : List Nd} (h : out.length + e.length ≤ 274877906944) : c40 T.rf out e = some (out ++ e.map (mv out.length)) := or40 (by
  have := refBehind_loop out.length e [] out h (by simp; omega)
  simp only [List.nil_append, List.length_nil] at this
  simp only [r40]
  rw [show (0 : Int) = ((0 : Nat) : Int) from rfl, this]; rfl)

theorem Same_loop : ∀ (s t p q : List Nd), p.length = q.length → s.length = t.length → p.length + s.length < 4611686018427387904 →
    k25 T.rb (p ++ s) (q ++ t) (p.length : Nat) = some (if s = t then .inr () else .inl false)
  | [], t, p, q, h1, h2, h3 => ob25 (by
    have : t = [] := List.eq_nil_of_length_eq_zero (by simpa using h2.symm)
    subst this
    simp only [b25, lt_end, lt_self, List.append_nil, cond_false, if_true])
  | x :: s, [], p, q, h1, h2, h3 => by simp at h2
  | x :: s, y :: t, p, q, h1, h2, h3 => ob25 (by
    simp only [List.length_cons] at h2 h3
    have ih := Same_loop s t (p ++ [x]) (q ++ [y]) (by simp [h1]) (by omega) (by simp; omega)
    simp only [List.append_assoc, List.singleton_append] at ih
    have e1 : inb ((p.length : Nat) : Int) (q ++ y :: t).length = true := by rw [h1]; exact inb_mid q y t
    have e2 : nth (q ++ y :: t) ((p.length : Nat) : Int).toNat = some y := by rw [h1]; exact nth_mid q y t
    simp only [b25, lt_mid, inb_mid, nth_mid, e1, e2, cond_true, Option.bind_some, next_mid p x (by omega), ih]
    obtain ⟨x1, x2, x3, x4, x5, x6⟩ := x
    obtain ⟨y1, y2, y3, y4, y5, y6⟩ := y
    cases hc : (x1 == y1 && (x2 == y2 && (x3 == y3 && (x4 == y4 && (x5 == y5 && x6 == y6)))))
    · have : ¬ ((x1, x2, x3, x4, x5, x6) :: s = (y1, y2, y3, y4, y5, y6) :: t) := by
        intro h
        injection h with h h'
        simp only [Prod.mk.injEq] at h
        obtain ⟨rfl, rfl, rfl, rfl, rfl, rfl⟩ := h
        simp at hc
      rw [if_neg this]; rfl
    · simp only [Bool.and_eq_true, beq_iff_eq] at hc
      obtain ⟨rfl, rfl, rfl, rfl, rfl, rfl⟩ := hc
      by_cases hst : s = t
      · rw [if_pos hst, if_pos (by rw [hst])]; rfl
      · rw [if_neg hst, if_neg (by intro h; injection h with _ h; exact hst h)]; rfl)

theorem Same_eq {a b : List Nd} (ha : a.length < 4611686018427387904) (hb : b.length < 4611686018427387904) : c20 T.rf a b = some (decide (a = b)) := or20 (by
  simp only [r20]
  by_cases h : a.length = b.length
  · have := Same_loop a b [] [] rfl h (by simpa using ha)
    simp only [List.nil_append, List.length_nil] at this
    rw [nbt (by rw [h]), cond_false, show (0 : Int) = ((0 : Nat) : Int) from rfl, this]
    by_cases e : a = b
    · rw [if_pos e, dt e]; rfl
    · rw [if_neg e, df e]; rfl
  · rw [nbf (by omega), cond_true, df (fun e => h (by rw [e]))])

theorem Copy_eq {e : List Nd} (h : e.length ≤ 274877906944) : c37 T.rf e = some e := or37 (by
  simp only [r37, ble_most h, cond_true])
theorem leaf_eq (op n : Int) (nm : List UInt8) : c39 T.rf op n nm = some (op, -1, -1, -1, n, nm) := or39 rfl

/-- Parts put together: the nodes, the operands' numbers, the last argument's. -/
def joinL (op : Int) : List (List Nd) → List Nd → List Int → Int → Option (List Nd × List Int × Int)
  | [], o, ks, l => some (o, ks, l)
  | p :: r, o, ks, l => if p = [] then none else
    let o1 := o ++ p.map (mv o.length)
    if op = 27 then joinL op r (o1 ++ [(28, (o1.length : Int) - 1, l, -1, 0, [])]) (ks ++ [(o1.length : Int) - 1]) o1.length
    else joinL op r o1 (ks ++ [(o1.length : Int) - 1]) l

def total : List (List Nd) → Nat
  | [] => 0
  | p :: r => p.length + 1 + total r

/-- The operands' numbers that the program keeps. -/
def keptK (op : Int) (ks : List Int) (l : Int) : List Int := if op = 27 then (if l = -1 then [] else [l]) else ks

theorem len_ne {p : List Nd} (h : p ≠ []) : (((p.length : Nat) : Int) == 0) = false := bf (by
  have := List.length_pos_iff.2 h; omega)

theorem Join_loop (op : Int) : ∀ (suf pre : List (List Nd)) (o : List Nd) (ks : List Int) (l : Int), o.length + total suf ≤ 274877906944 → pre.length + suf.length ≤ 274877906944 → ks.length + suf.length ≤ 274877906944 → -1 ≤ l →
    k3 T.rb o (keptK op ks l) op (pre ++ suf) ((pre ++ suf).length : Nat) (pre.length : Nat) = some (match joinL op suf o ks l with
      | none => .inl []
      | some (o', ks', l') => .inr (o', keptK op ks' l'))
  | [], pre, o, ks, l, h, h2, h3, h4 => ob3 (by
    simp only [b3, lt_end, lt_self, List.append_nil, cond_false, joinL])
  | p :: suf, pre, o, ks, l, h, h2, h3, h4 => ob3 (by
    simp only [total, List.length_cons] at h h2 h3
    simp only [b3, lt_mid, inb_mid, nth_mid, cond_true, Option.bind_some, joinL]
    by_cases hp : p = []
    · subst hp; rfl
    have hp' := List.length_pos_iff.2 hp
    rw [len_ne hp, cond_false, if_neg hp, behind_eq (by omega), Option.bind_some]
    have hol : (o ++ p.map (mv o.length)).length = o.length + p.length := by simp
    by_cases h27 : op = 27
    · subst h27
      rw [if_pos rfl]
      have ih := Join_loop 27 suf (pre ++ [p]) ((o ++ p.map (mv o.length)) ++ [(28, ((o ++ p.map (mv o.length)).length : Int) - 1, l, -1, 0, [])]) (ks ++ [((o ++ p.map (mv o.length)).length : Int) - 1]) (o ++ p.map (mv o.length)).length
        (by simp only [List.length_append, List.length_map, List.length_singleton]; omega) (by simp only [List.length_append, List.length_singleton]; omega) (by simp only [List.length_append, List.length_singleton]; omega) (by omega)
      have hk : keptK 27 (ks ++ [((o ++ p.map (mv o.length)).length : Int) - 1]) (o ++ p.map (mv o.length)).length = [((o ++ p.map (mv o.length)).length : Int)] := by
        simp only [keptK, if_true]; rw [if_neg (by omega)]
      rw [hk] at ih
      simp only [List.append_assoc, List.singleton_append] at ih
      have hw : IntKind.i64.wrap (((o ++ p.map (mv o.length)).length : Int) - 1) = ((o ++ p.map (mv o.length)).length : Int) - 1 := wr (by omega)
      have hw2 : ∀ x : Nd, IntKind.i64.wrap ((((o ++ p.map (mv o.length)) ++ [x]).length : Int) - 1) = ((o ++ p.map (mv o.length)).length : Int) := fun x => by
        rw [wr (by simp only [List.length_append, List.length_map, List.length_singleton]; omega)]
        simp only [List.length_append, List.length_map, List.length_singleton]; omega
      have hb : Nat.ble ((o ++ p.map (mv o.length)).length + 1) most = true := ble_most (by omega)
      by_cases hl : l = -1
      · subst hl
        simp only [keptK, if_true, Int.reduceBEq, cond_true, List.length_nil]
        rw [show decide (((0 : Nat) : Int) > 0) = false from rfl, cond_false, hb, hw, hw2, show inb' 0 0 = true from rfl]
        simp only [Bool.and_true, cond_true, sub_zero, Int.toNat_zero, Nat.sub_zero, List.take_zero, List.length_nil, List.nil_append, ble_most (show 0 + 1 ≤ 274877906944 by omega), next_mid pre p (by omega)]
        simpa only [List.append_assoc, keptK, if_true] using ih
      · simp only [keptK, if_true, if_neg hl, Int.reduceBEq, cond_true, List.length_singleton]
        rw [show decide (((1 : Nat) : Int) > 0) = true from rfl, cond_true, show inb 0 1 = true from rfl, cond_true, show nth [l] 0 = some l from rfl, Option.bind_some, hb, hw, hw2, show inb' 0 1 = true from rfl]
        simp only [Bool.and_true, cond_true, sub_zero, Int.toNat_zero, Nat.sub_zero, List.take_zero, List.length_nil, List.nil_append, ble_most (show 0 + 1 ≤ 274877906944 by omega), next_mid pre p (by omega)]
        simpa only [List.append_assoc, keptK, if_true] using ih
    · rw [if_neg h27, bf h27, cond_false]
      have hk : ∀ ks l, keptK op ks l = ks := fun ks l => by simp only [keptK, if_neg h27]
      have ih := Join_loop op suf (pre ++ [p]) (o ++ p.map (mv o.length)) (ks ++ [((o ++ p.map (mv o.length)).length : Int) - 1]) l
        (by omega) (by simp only [List.length_append, List.length_singleton]; omega) (by simp only [List.length_append, List.length_singleton]; omega) h4
      simp only [hk] at ih ⊢
      simp only [List.append_assoc, List.singleton_append] at ih
      rw [ble_most (show ks.length + 1 ≤ 274877906944 by omega), wr (by omega)]
      simp only [Bool.and_true, cond_true, next_mid pre p (by omega)]
      simpa only [List.append_assoc] using ih)

theorem refJoin_loop (op : Int) : ∀ (suf pre : List (List Nd)) (o : List Nd) (ks : List Int) (l : Int), o.length + total suf ≤ 274877906944 → pre.length + suf.length ≤ 274877906944 → ks.length + suf.length ≤ 274877906944 →
    k54 T.rb o ks op (pre ++ suf) l (pre.length : Nat) = some (match joinL op suf o ks l with
      | none => .inl []
      | some (o', ks', l') => .inr (o', ks', l'))
  | [], pre, o, ks, l, h, h2, h3 => ob54 (by
    simp only [b54, lt_end, lt_self, List.append_nil, cond_false, joinL])
  | p :: suf, pre, o, ks, l, h, h2, h3 => ob54 (by
    simp only [total, List.length_cons] at h h2 h3
    simp only [b54, lt_mid, inb_mid, nth_mid, cond_true, Option.bind_some, joinL]
    by_cases hp : p = []
    · subst hp; rfl
    have hp' := List.length_pos_iff.2 hp
    rw [len_ne hp, cond_false, if_neg hp, refBehind_eq (by omega), Option.bind_some]
    have hol : (o ++ p.map (mv o.length)).length = o.length + p.length := by simp
    have hw : IntKind.i64.wrap (((o ++ p.map (mv o.length)).length : Int) - 1) = ((o ++ p.map (mv o.length)).length : Int) - 1 := wr (by omega)
    rw [ble_most (show ks.length + 1 ≤ 274877906944 by omega), hw]
    simp only [Bool.and_true, cond_true]
    by_cases h27 : op = 27
    · subst h27
      have ih := refJoin_loop 27 suf (pre ++ [p]) ((o ++ p.map (mv o.length)) ++ [(28, ((o ++ p.map (mv o.length)).length : Int) - 1, l, -1, 0, [])]) (ks ++ [((o ++ p.map (mv o.length)).length : Int) - 1]) (o ++ p.map (mv o.length)).length
        (by simp only [List.length_append, List.length_map, List.length_singleton]; omega) (by simp only [List.length_append, List.length_singleton]; omega) (by simp only [List.length_append, List.length_singleton]; omega)
      simp only [List.append_assoc, List.singleton_append] at ih
      simp only [if_true, Int.reduceBEq, cond_true, leaf_eq, Option.bind_some, ble_most (show (o ++ p.map (mv o.length)).length + 1 ≤ 274877906944 by omega), Bool.and_true, next_mid pre p (by omega)]
      simpa only [List.append_assoc] using ih
    · have ih := refJoin_loop op suf (pre ++ [p]) (o ++ p.map (mv o.length)) (ks ++ [((o ++ p.map (mv o.length)).length : Int) - 1]) l
        (by omega) (by simp only [List.length_append, List.length_singleton]; omega) (by simp only [List.length_append, List.length_singleton]; omega)
      simp only [List.append_assoc, List.singleton_append] at ih
      simp only [if_neg h27, bf h27, cond_false, next_mid pre p (by omega)]
      simpa only [List.append_assoc] using ih)

def join (op n : Int) (nm : List UInt8) (parts : List (List Nd)) : List Nd :=
  if op = 28 then [] else if op ≠ 27 ∧ (kids (op, -1, -1, -1, n, nm)).length ≠ parts.length then [] else
  match joinL op parts [] [] (-1) with
  | none => []
  | some (o, ks, l) => o ++ [aim (op, -1, -1, -1, n, nm) (keptK op ks l)]

theorem joinL_len (op : Int) : ∀ (ps : List (List Nd)) (o : List Nd) (ks : List Int) (l : Int) (o' : List Nd) (ks' : List Int) (l' : Int), joinL op ps o ks l = some (o', ks', l') → o'.length ≤ o.length + total ps
  | [], o, ks, l, o', ks', l', h => by simp only [joinL] at h; cases h; simp [total]
  | p :: r, o, ks, l, o', ks', l', h => by
    simp only [joinL] at h
    split at h
    · cases h
    split at h
    · have := joinL_len op r _ _ _ _ _ _ h
      simp only [List.length_append, List.length_map, List.length_singleton, total] at this ⊢; omega
    · have := joinL_len op r _ _ _ _ _ _ h
      simp only [List.length_append, List.length_map, total] at this ⊢; omega

theorem Join_eq {op n : Int} {nm : List UInt8} {ps : List (List Nd)} (h : total ps < 274877906944) (h2 : ps.length < 274877906944) : c3 T.rf op n nm ps = some (join op n nm ps) := or3 (by
  have hl := Join_loop op ps [] [] [] (-1) (by simpa using by omega) (by simpa using by omega) (by simpa using by omega) (by omega)
  have hk : keptK op [] (-1) = [] := by simp [keptK]
  simp only [List.nil_append, List.length_nil, hk] at hl
  simp only [r3, join]
  by_cases h28 : op = 28
  · rw [bt h28, cond_true, if_pos h28]
  rw [bf h28, cond_false, if_neg h28]
  have fin : (k3 T.rb [] [] op ps (ps.length : Nat) 0).bind (fun z => match z with
      | .inl u => some u
      | .inr w => (c6 T.rf (op, -1, -1, -1, n, nm) w.2).bind fun y => bif Nat.ble (w.1.length + 1) most && true then some (w.1 ++ [y]) else none) = some (match joinL op ps [] [] (-1) with
        | none => []
        | some (o, ks, l) => o ++ [aim (op, -1, -1, -1, n, nm) (keptK op ks l)]) := by
    rw [show (0 : Int) = ((0 : Nat) : Int) from rfl, hl]
    cases hj : joinL op ps [] [] (-1) with
    | none => rfl
    | some x =>
      obtain ⟨o, ks, l⟩ := x
      have := joinL_len op ps _ _ _ _ _ _ hj
      simp only [List.length_nil, Nat.zero_add] at this
      simp only [Option.bind_some, with_eq, ble_most (show o.length + 1 ≤ 274877906944 by omega), Bool.and_true, cond_true]
  by_cases h27 : op = 27
  · rw [nbt h27, cond_false, if_neg (by intro hh; exact hh.1 h27)]
    exact fin
  · rw [nbf h27, cond_true, kids_eq, Option.bind_some]
    by_cases hn : (kids (op, -1, -1, -1, n, nm)).length = ps.length
    · rw [nbt (by rw [hn]), cond_false, if_neg (by intro hh; exact hh.2 hn)]
      exact fin
    · rw [nbf (by omega), cond_true, if_pos ⟨h27, hn⟩])

theorem refJoin_eq {op n : Int} {nm : List UInt8} {ps : List (List Nd)} (h : total ps < 274877906944) (h2 : ps.length < 274877906944) : c38 T.rf op n nm ps = some (join op n nm ps) := or38 (by
  have hl := refJoin_loop op ps [] [] [] (-1) (by simpa using by omega) (by simpa using by omega) (by simpa using by omega)
  simp only [List.nil_append, List.length_nil] at hl
  simp only [r38, join, leaf_eq, refKids_eq, Option.bind_some]
  by_cases h28 : op = 28
  · rw [bt h28, cond_true, if_pos h28]
  rw [bf h28, cond_false, if_neg h28, show (0 : Int) = ((0 : Nat) : Int) from rfl, hl]
  by_cases h27 : op = 27
  · subst h27
    rw [nbt rfl, cond_false, if_neg (by intro hh; exact hh.1 rfl)]
    cases hj : joinL 27 ps [] [] (-1) with
    | none => rfl
    | some x =>
      obtain ⟨o, ks, l⟩ := x
      have := joinL_len 27 ps _ _ _ _ _ _ hj
      simp only [List.length_nil, Nat.zero_add] at this
      simp only [Option.bind_some, Int.reduceBEq, ble_most (show o.length + 1 ≤ 274877906944 by omega), Bool.and_true, cond_true, keptK, if_true]
      by_cases hl1 : l = -1
      · subst hl1; rfl
      · rw [if_neg hl1]; rfl
  · rw [nbf h27, cond_true]
    by_cases hn : (kids (op, -1, -1, -1, n, nm)).length = ps.length
    · rw [nbt (by rw [hn]), cond_false, if_neg (by intro hh; exact hh.2 hn)]
      cases hj : joinL op ps [] [] (-1) with
      | none => rfl
      | some x =>
        obtain ⟨o, ks, l⟩ := x
        have := joinL_len op ps _ _ _ _ _ _ hj
        simp only [List.length_nil, Nat.zero_add] at this
        simp only [Option.bind_some, bf h27, cond_false, aim_eq, ble_most (show o.length + 1 ≤ 274877906944 by omega), Bool.and_true, cond_true, keptK, if_neg h27]
    · rw [nbf (by omega), cond_true, if_pos ⟨h27, hn⟩])

end Go.Proofs.Ytcmdngadpplodaa.R
