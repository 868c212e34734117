/-
  OUR OWN: what the functions of package inits and of its document come to, in plain Lean: from which instant on an expression is.
-/
import Derived.Test.YtcgipnodielieaaTreeI
namespace Go.Proofs.Ytcgipnodielieaa.R
open Go Go.Bm Go.Proofs
set_option linter.unusedVariables false
set_option linter.unusedSimpArgs false
set_option maxRecDepth 4000

/-- Is one of some nodes late? -/
def lateK (acc : List Bool) (ks : List Int) : Bool := ks.any fun k => acc.getD k.toNat false
def kidsI (n : Nd) : List Int := if n.1 = 19 then (kids n).take 1 else kids n
def strict (op : Int) : Bool := decide (op = 19) || (decide (op = 20) || (decide (op = 21) || (decide (op = 22) || (decide (op = 23) || (decide (op = 24) || (decide (op = 25) || decide (op = 27)))))))
/-- Which nodes are late; none: one is read ahead of its beginning. -/
def latL : List Nd → List Bool → Option (List Bool)
  | [], acc => some acc
  | n :: r, acc => if strict n.1 = true then (if lateK acc (kidsI n) = true then none else latL r (acc ++ [decide (n.1 = 21)])) else latL r (acc ++ [lateK acc (kidsI n)])
def ofE (e : List Nd) : Int × Int := if mayB e = true then (match latL e [] with
  | none => (0, 11)
  | some l => (if l.getLastD false = true then 1 else 0, 0)) else (0, 1)

def rowB (acc : List Bool) (m : Nat) : List Bool := acc ++ List.replicate m false
theorem rowB_get {acc : List Bool} {m : Nat} {k : Int} (h : 0 ≤ k) (h2 : k < acc.length) : nth (rowB acc m) k.toNat = some (acc.getD k.toNat false) := by
  rw [nth_getElem?, rowB, List.getElem?_append_left (by omega), List.getD_eq_getElem?_getD, List.getElem?_eq_getElem (by omega)]; rfl
theorem rowB_len (acc : List Bool) (m : Nat) : (rowB acc m).length = acc.length + m := by simp [rowB]

theorem begun_loop (acc : List Bool) (m : Nat) (hl : acc.length + m ≤ 1000000) : ∀ (suf pre : List Int), (∀ k ∈ suf, 0 ≤ k ∧ k < acc.length) → pre.length + suf.length ≤ 3 →
    k52 T.rb (rowB acc m) (pre ++ suf) ((pre ++ suf).length : Nat) (pre.length : Nat) = some (if lateK acc suf = true then .inl (rowB acc m, false) else .inr (rowB acc m))
  | [], pre, h, h2 => ob52 (by simp only [b52, lt_end, lt_self, List.append_nil, cond_false]; rfl)
  | k :: suf, pre, h, h2 => ob52 (by
    simp only [List.length_cons] at h2
    have hk := h k List.mem_cons_self
    have ih := begun_loop acc m hl suf (pre ++ [k]) (fun q hq => h q (List.mem_cons_of_mem _ hq)) (by simp; omega)
    simp only [List.append_assoc, List.singleton_append] at ih
    have hin : inb k (rowB acc m).length = true := inb_t hk.1 (by rw [rowB_len]; omega)
    simp only [b52, lt_mid, inb_mid, nth_mid, cond_true, Option.bind_some, hin, rowB_get hk.1 hk.2, next_mid pre k (by omega), ih]
    have hc : lateK acc (k :: suf) = (acc.getD k.toNat false || lateK acc suf) := rfl
    rw [hc]
    cases acc.getD k.toNat false
    · rw [Bool.false_or]; rfl
    · rfl)

theorem begun_eq {acc : List Bool} {m : Nat} (hl : acc.length + m ≤ 1000000) {ks : List Int} (h : ∀ k ∈ ks, 0 ≤ k ∧ k < acc.length) (h3 : ks.length ≤ 3) : c52 T.rf (rowB acc m) ks = some (rowB acc m, !lateK acc ks) := or52 (by
  have := begun_loop acc m hl ks [] h (by simpa using h3)
  simp only [List.nil_append, List.length_nil] at this
  rw [show ((0 : Nat) : Int) = (0 : Int) from rfl] at this
  simp only [r52, this, Option.bind_some]
  cases lateK acc ks <;> rfl)

theorem kidsI_sub (n : Nd) : ∀ k ∈ kidsI n, k ∈ kids n := by
  intro k hk
  unfold kidsI at hk
  split at hk
  · exact List.mem_of_mem_take hk
  · exact hk
theorem kidsI_len (n : Nd) : (kidsI n).length ≤ 3 := by
  have := kids_len n
  unfold kidsI
  split
  · rw [List.length_take]; omega
  · exact this

theorem Of_loop0 (e : List Nd) (hA : Ahead e) (he : e.length ≤ 5000) : ∀ (suf pre : List Nd) (acc : List Bool), e = pre ++ suf → acc.length = pre.length →
    match latL suf acc with
    | some l => k55 T.rb (rowB acc suf.length) e (e.length : Nat) (pre.length : Nat) = some (.inr l)
    | none => ∃ u, k55 T.rb (rowB acc suf.length) e (e.length : Nat) (pre.length : Nat) = some (.inl (u, 0, 11))
  | [], pre, acc, h, ha => ob55 (by
    rw [h]; simp [b55, lt_self, rowB])
  | n :: suf, pre, acc, h, ha => by
    have ih := fun y => Of_loop0 e hA he suf (pre ++ [n]) (acc ++ [y]) (by rw [h]; simp) (by simp [ha])
    have hpl : (pre ++ [n]).length = pre.length + 1 := by simp
    have hlt : pre.length < e.length := by rw [h]; simp
    have hel : e.length = pre.length + (suf.length + 1) := by rw [h]; simp
    have a1 : decide (((pre.length : Nat) : Int) < ((e.length : Nat) : Int)) = true := dt (by omega)
    have a2 : inb ((pre.length : Nat) : Int) e.length = true := inb_t (by omega) (by omega)
    have a3' : nth e pre.length = some n := by rw [h, nth_getElem?]; simp
    have a3 : nth e ((pre.length : Nat) : Int).toNat = some n := by rw [Int.toNat_natCast]; exact a3'
    have a4 : IntKind.i64.wrap (((pre.length : Nat) : Int) + 1) = ((pre ++ [n]).length : Nat) := next_mid pre n (by omega)
    have hal := hA pre.length n a3'
    have hk3 := kids_len n
    have hrow : rowB acc (n :: suf).length = acc ++ false :: List.replicate suf.length false := by simp [rowB, List.replicate_succ]
    have hset : ∀ y, setNth (rowB acc (n :: suf).length) ((pre.length : Nat) : Int).toNat y = rowB (acc ++ [y]) suf.length := fun y => by
      rw [hrow, setNth_set, Int.toNat_natCast, ← ha, List.set_append_right _ _ (Nat.le_refl _), Nat.sub_self, List.set_cons_zero]; simp [rowB]
    have a5 : inb ((pre.length : Nat) : Int) (rowB acc (n :: suf).length).length = true := inb_t (by omega) (by rw [rowB_len]; simp; omega)
    have a6 : Nat.blt ((pre.length : Nat) : Int).toNat (rowB acc (n :: suf).length).length = true := blt_t (by rw [rowB_len]; simp; omega)
    have hbI : c52 T.rf (rowB acc (n :: suf).length) (kidsI n) = some (rowB acc (n :: suf).length, !lateK acc (kidsI n)) :=
      begun_eq (by simp; omega) (fun k hk => by have := hal k (kidsI_sub n k hk); omega) (kidsI_len n)
    have go : ∀ y, latL (n :: suf) acc = latL suf (acc ++ [y]) → (b55 T.rf T.rb (rowB acc (n :: suf).length) e (e.length : Nat) (pre.length : Nat) = k55 T.rb (rowB (acc ++ [y]) suf.length) e (e.length : Nat) ((pre ++ [n]).length : Nat)) →
        match latL (n :: suf) acc with
        | some l => k55 T.rb (rowB acc (n :: suf).length) e (e.length : Nat) (pre.length : Nat) = some (.inr l)
        | none => ∃ u, k55 T.rb (rowB acc (n :: suf).length) e (e.length : Nat) (pre.length : Nat) = some (.inl (u, 0, 11)) := by
      intro y h1 h2
      have ih := ih y
      rw [h1]
      cases hl : latL suf (acc ++ [y]) with
      | none => rw [hl] at ih; obtain ⟨u, ih⟩ := ih; exact ⟨u, ob55 (h2.trans ih)⟩
      | some l => rw [hl] at ih; exact ob55 (h2.trans ih)
    have bad : latL (n :: suf) acc = none → (b55 T.rf T.rb (rowB acc (n :: suf).length) e (e.length : Nat) (pre.length : Nat) = some (.inl (rowB acc (n :: suf).length, 0, 11))) →
        match latL (n :: suf) acc with
        | some l => k55 T.rb (rowB acc (n :: suf).length) e (e.length : Nat) (pre.length : Nat) = some (.inr l)
        | none => ∃ u, k55 T.rb (rowB acc (n :: suf).length) e (e.length : Nat) (pre.length : Nat) = some (.inl (u, 0, 11)) := by
      intro h1 h2
      rw [h1]
      exact ⟨_, ob55 h2⟩
    by_cases h19 : n.1 = 19
    · have hk : kids n = [n.2.1, n.2.2.1] := by
        unfold kids; rw [if_neg (by omega), if_neg (by omega), if_neg (by omega), if_pos (by omega)]
      have hkI : kidsI n = [n.2.1] := by unfold kidsI; rw [if_pos h19, hk]; rfl
      have hst : strict n.1 = true := by rw [h19]; rfl
      rw [hkI] at hbI
      have hsub : sub [n.2.1, n.2.2.1] (some (0, 1)) = [n.2.1] := rfl
      cases hL : lateK acc [n.2.1]
      · refine go (decide (n.1 = 21)) (by rw [latL, if_pos hst, hkI, hL, if_neg (by decide)]) ?_
        simp only [b55, a1, a2, a3, a4, cond_true, Option.bind_some, kids_eq, hk, bt h19, show inb' 1 [n.2.1, n.2.2.1].length = true from rfl, show (1 : Int).toNat - 0 = 1 from rfl, hsub, hbI, hL, Bool.not_false, Bool.not_true, cond_false, a5, a6, hset]
        rw [bf (show n.1 ≠ 21 by omega), df (show ¬ n.1 = 21 by omega)]
      · refine bad (by rw [latL, if_pos hst, hkI, hL, if_pos rfl]) ?_
        simp only [b55, a1, a2, a3, a4, cond_true, Option.bind_some, kids_eq, hk, bt h19, show inb' 1 [n.2.1, n.2.2.1].length = true from rfl, show (1 : Int).toNat - 0 = 1 from rfl, hsub, hbI, hL, Bool.not_false, Bool.not_true]
    have hkI : kidsI n = kids n := by unfold kidsI; rw [if_neg h19]
    rw [hkI] at hbI
    by_cases hs : n.1 = 20 ∨ n.1 = 21 ∨ n.1 = 22 ∨ n.1 = 23 ∨ n.1 = 24 ∨ n.1 = 25 ∨ n.1 = 27
    · have hst : strict n.1 = true := by
        rcases hs with e | e | e | e | e | e | e <;> rw [e] <;> rfl
      have e21 : (n.1 == 21) = decide (n.1 = 21) := eqm _ _
      cases hL : lateK acc (kids n)
      · refine go (decide (n.1 = 21)) (by rw [latL, if_pos hst, hkI, hL, if_neg (by decide)]) ?_
        rcases hs with e | e | e | e | e | e | e <;>
          simp only [b55, a1, a2, a3, a4, cond_true, Option.bind_some, kids_eq, e, hbI, hL, Bool.not_false, Bool.not_true, cond_false, a5, a6, hset, Int.reduceBEq, Int.reduceEq, decide_true, decide_false]
      · refine bad (by rw [latL, if_pos hst, hkI, hL, if_pos rfl]) ?_
        rcases hs with e | e | e | e | e | e | e <;>
          simp only [b55, a1, a2, a3, a4, cond_true, Option.bind_some, kids_eq, e, hbI, hL, Bool.not_false, Bool.not_true, cond_false, Int.reduceBEq, Int.reduceEq, decide_true, decide_false]
    · have hst : strict n.1 = false := by
        simp only [strict, df h19, df (show ¬ n.1 = 20 from fun e => hs (by omega)), df (show ¬ n.1 = 21 from fun e => hs (by omega)), df (show ¬ n.1 = 22 from fun e => hs (by omega)), df (show ¬ n.1 = 23 from fun e => hs (by omega)), df (show ¬ n.1 = 24 from fun e => hs (by omega)), df (show ¬ n.1 = 25 from fun e => hs (by omega)), df (show ¬ n.1 = 27 from fun e => hs (by omega)), Bool.or_self]
      refine go (lateK acc (kids n)) (by rw [latL, if_neg (by rw [hst]; decide), hkI]) ?_
      simp only [b55, a1, a2, a3, a4, cond_true, Option.bind_some, kids_eq, bf h19, bf (show n.1 ≠ 20 from fun e => hs (by omega)), bf (show n.1 ≠ 21 from fun e => hs (by omega)), bf (show n.1 ≠ 22 from fun e => hs (by omega)), bf (show n.1 ≠ 23 from fun e => hs (by omega)), bf (show n.1 ≠ 24 from fun e => hs (by omega)), bf (show n.1 ≠ 25 from fun e => hs (by omega)), bf (show n.1 ≠ 27 from fun e => hs (by omega)), hbI, Bool.not_not, cond_false, a5, a6, hset]

theorem latL_len : ∀ (l : List Nd) (acc out : List Bool), latL l acc = some out → out.length = acc.length + l.length
  | [], acc, out, h => by cases h; simp
  | n :: r, acc, out, h => by
    rw [latL] at h
    split at h
    · split at h
      · cases h
      · have := latL_len r _ _ h; simp at this ⊢; omega
    · have := latL_len r _ _ h; simp at this ⊢; omega

theorem Of_eq {e : List Nd} (h : e.length ≤ 1000000) : c43 T.rf e = some (ofE e) := or43 (by
  simp only [r43, May_eq h, Option.bind_some, ofE]
  cases hm : mayB e
  · rw [if_neg (by decide)]; rfl
  have hM := may_P hm
  have hl := hM.len
  have hpos := List.length_pos_iff.2 hM.ne
  rw [if_pos rfl, Bool.not_true, cond_false, inb'_nat, dt (show e.length ≤ most by unfold most; omega), cond_true, inb'_nat, dt (Nat.le_refl _), cond_true]
  have h0 := Of_loop0 e hM.ahead hl e [] [] rfl rfl
  simp only [rowB, List.nil_append, List.length_nil] at h0
  rw [show ((0 : Nat) : Int) = (0 : Int) from rfl] at h0
  cases hL : latL e [] with
  | none =>
    rw [hL] at h0
    obtain ⟨u, h0⟩ := h0
    rw [h0]; rfl
  | some l =>
    rw [hL] at h0
    have hll := latL_len e [] l hL
    simp only [List.length_nil, Nat.zero_add] at hll
    rw [h0]
    simp only [Option.bind_some]
    rw [last_i hM.ne (by omega), inb_nat, dt (by omega), cond_true, Int.toNat_natCast, nth_t (by omega), Option.bind_some]
    have hg : l.getLastD false = l[e.length - 1]'(by omega) := by
      rw [List.getLastD_eq_getLast?, List.getLast?_eq_getElem?, List.getElem?_eq_getElem (by omega)]
      simp [hll]
    rw [hg]
    cases l[e.length - 1]'(by omega) <;> rfl)

end Go.Proofs.Ytcgipnodielieaa.R
