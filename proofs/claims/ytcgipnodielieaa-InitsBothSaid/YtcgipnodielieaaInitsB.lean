/-
  OUR OWN: what the document's functions of layer inits come to, in plain terms.
-/
import Derived.Test.YtcgipnodielieaaInitsA
namespace Go.Proofs.Ytcgipnodielieaa.R
open Go Go.Bm Go.Proofs
set_option linter.unusedVariables false
set_option linter.unusedSimpArgs false
set_option maxRecDepth 4000

def b2i (b : Bool) : Int := if b = true then 1 else 0
def rowI (acc : List Bool) (m : Nat) : List Int := acc.map b2i ++ List.replicate m 0
theorem rowI_len (acc : List Bool) (m : Nat) : (rowI acc m).length = acc.length + m := by simp [rowI]
theorem rowI_get {acc : List Bool} {m : Nat} {k : Int} (h : 0 ≤ k) (h2 : k < acc.length) : nth (rowI acc m) k.toNat = some (b2i (acc.getD k.toNat false)) := by
  rw [nth_getElem?, rowI, List.getElem?_append_left (by simp; omega), List.getElem?_map, List.getD_eq_getElem?_getD, List.getElem?_eq_getElem (by omega)]; rfl
theorem b2i_max (a b : Bool) : (if b2i a > b2i b then b2i a else b2i b) = b2i (b || a) := by cases a <;> cases b <;> rfl
theorem b2i_pos (a : Bool) : decide (b2i a > 0) = a := by cases a <;> rfl

theorem node_loop (acc : List Bool) (m : Nat) (hl : acc.length + m ≤ 1000000) : ∀ (suf pre : List Int) (b : Bool), (∀ k ∈ suf, 0 ≤ k ∧ k < acc.length) → pre.length + suf.length ≤ 3 →
    k99 T.rb (rowI acc m) (pre ++ suf) (b2i b) (pre.length : Nat) = some (rowI acc m, pre ++ suf, b2i (b || lateK acc suf))
  | [], pre, b, h, h2 => ob99 (by simp [b99, lt_self, lateK])
  | k :: suf, pre, b, h, h2 => ob99 (by
    simp only [List.length_cons] at h2
    have hk := h k List.mem_cons_self
    have ih := fun b' => node_loop acc m hl suf (pre ++ [k]) b' (fun q hq => h q (List.mem_cons_of_mem _ hq)) (by simp; omega)
    simp only [List.append_assoc, List.singleton_append] at ih
    have hin : inb k (rowI acc m).length = true := inb_t hk.1 (by rw [rowI_len]; omega)
    simp only [b99, lt_mid, inb_mid, nth_mid, cond_true, Option.bind_some, hin, rowI_get hk.1 hk.2, b2i_max, next_mid pre k (by omega), ih]
    have hc : lateK acc (k :: suf) = (acc.getD k.toNat false || lateK acc suf) := rfl
    rw [hc, Bool.or_assoc])

/-- What a node comes to: its instant, or why there is none. -/
def nodeV (acc : List Bool) (n : Nd) : Int × Int := if strict n.1 = true then (if lateK acc (kidsI n) = true then (0, 11) else (b2i (decide (n.1 = 21)), 0)) else (b2i (lateK acc (kidsI n)), 0)

theorem node_eq {e : List Nd} {acc : List Bool} {m i : Nat} {n : Nd} (hl : acc.length + m ≤ 1000000) (hi : nth e i = some n) (hil : i < e.length) (hal : ∀ k ∈ kids n, 0 ≤ k ∧ k < acc.length) : c83 T.rf (rowI acc m) e (i : Nat) = some (rowI acc m, nodeV acc n) := or83 (by
  have hk3 := kids_len n
  have hloop := node_loop acc m hl (kids n) [] false hal (by simpa using hk3)
  simp only [List.nil_append, List.length_nil, Bool.false_or] at hloop
  rw [show ((0 : Nat) : Int) = (0 : Int) from rfl, show b2i false = (0 : Int) from rfl] at hloop
  have a2 : inb ((i : Nat) : Int) e.length = true := inb_t (by omega) (by omega)
  have a3 : nth e ((i : Nat) : Int).toNat = some n := by rw [Int.toNat_natCast]; exact hi
  by_cases h19 : n.1 = 19
  · have hk : kids n = [n.2.1, n.2.2.1] := by
      unfold kids; rw [if_neg (by omega), if_neg (by omega), if_neg (by omega), if_pos (by omega)]
    have hkI : kidsI n = [n.2.1] := by unfold kidsI; rw [if_pos h19, hk]; rfl
    have hst : strict n.1 = true := by rw [h19]; rfl
    have hA := hal n.2.1 (by rw [hk]; simp)
    have hin : inb n.2.1 (rowI acc m).length = true := inb_t hA.1 (by rw [rowI_len]; omega)
    have hLs : lateK acc [n.2.1] = acc.getD n.2.1.toNat false := by simp [lateK]
    unfold nodeV
    rw [if_pos hst, hkI, hLs]
    simp only [r83, a2, a3, cond_true, Option.bind_some, refKids_eq, hloop, bf (show n.1 ≠ 21 by omega), bt h19, cond_false, hin, rowI_get hA.1 hA.2, b2i_pos]
    cases acc.getD n.2.1.toNat false
    · rw [df (show ¬ n.1 = 21 by omega)]; rfl
    · rfl
  have hkI : kidsI n = kids n := by unfold kidsI; rw [if_neg h19]
  unfold nodeV
  rw [hkI]
  by_cases hs : n.1 = 20 ∨ n.1 = 21 ∨ n.1 = 22 ∨ n.1 = 23 ∨ n.1 = 24 ∨ n.1 = 25 ∨ n.1 = 27
  · have hst : strict n.1 = true := by
      rcases hs with e | e | e | e | e | e | e <;> rw [e] <;> rfl
    rw [if_pos hst]
    rcases hs with e | e | e | e | e | e | e <;>
      (simp only [r83, a2, a3, cond_true, Option.bind_some, refKids_eq, hloop, e, cond_false, Int.reduceBEq, Int.reduceEq, decide_true, decide_false, b2i_pos]
       cases lateK acc (kids n) <;> rfl)
  · have hst : strict n.1 = false := by
      simp only [strict, df h19, df (show ¬ n.1 = 20 from fun e => hs (by omega)), df (show ¬ n.1 = 21 from fun e => hs (by omega)), df (show ¬ n.1 = 22 from fun e => hs (by omega)), df (show ¬ n.1 = 23 from fun e => hs (by omega)), df (show ¬ n.1 = 24 from fun e => hs (by omega)), df (show ¬ n.1 = 25 from fun e => hs (by omega)), df (show ¬ n.1 = 27 from fun e => hs (by omega)), Bool.or_self]
    rw [if_neg (by rw [hst]; decide)]
    simp only [r83, a2, a3, cond_true, Option.bind_some, refKids_eq, hloop, bf h19, bf (show n.1 ≠ 20 from fun e => hs (by omega)), bf (show n.1 ≠ 21 from fun e => hs (by omega)), bf (show n.1 ≠ 22 from fun e => hs (by omega)), bf (show n.1 ≠ 23 from fun e => hs (by omega)), bf (show n.1 ≠ 24 from fun e => hs (by omega)), bf (show n.1 ≠ 25 from fun e => hs (by omega)), bf (show n.1 ≠ 27 from fun e => hs (by omega)), cond_false])

theorem refOf_loop0 (e : List Nd) (hA : Ahead e) (he : e.length ≤ 5000) : ∀ (suf pre : List Nd) (acc : List Bool), e = pre ++ suf → acc.length = pre.length →
    match latL suf acc with
    | some l => k98 T.rb (rowI acc suf.length) e (pre.length : Nat) = some (.inr (l.map b2i))
    | none => ∃ u, k98 T.rb (rowI acc suf.length) e (pre.length : Nat) = some (.inl (u, 0, 11))
  | [], pre, acc, h, ha => ob98 (by
    rw [h]; simp [b98, lt_self, rowI])
  | n :: suf, pre, acc, h, ha => by
    have ih := fun y => refOf_loop0 e hA he suf (pre ++ [n]) (acc ++ [y]) (by rw [h]; simp) (by simp [ha])
    have hlt : pre.length < e.length := by rw [h]; simp
    have hel : e.length = pre.length + (suf.length + 1) := by rw [h]; simp
    have a1 : decide (((pre.length : Nat) : Int) < ((e.length : Nat) : Int)) = true := dt (by omega)
    have a3' : nth e pre.length = some n := by rw [h, nth_getElem?]; simp
    have a4 : IntKind.i64.wrap (((pre.length : Nat) : Int) + 1) = ((pre ++ [n]).length : Nat) := next_mid pre n (by omega)
    have hal := hA pre.length n a3'
    have hrow : rowI acc (n :: suf).length = acc.map b2i ++ (0 : Int) :: List.replicate suf.length 0 := by simp [rowI, List.replicate_succ]
    have hset : ∀ y : Bool, setNth (rowI acc (n :: suf).length) ((pre.length : Nat) : Int).toNat (b2i y) = rowI (acc ++ [y]) suf.length := fun y => by
      rw [hrow, setNth_set, Int.toNat_natCast, show pre.length = (acc.map b2i).length by simp [ha], List.set_append_right _ _ (Nat.le_refl _), Nat.sub_self, List.set_cons_zero]; simp [rowI]
    have a5 : inb ((pre.length : Nat) : Int) (rowI acc (n :: suf).length).length = true := inb_t (by omega) (by rw [rowI_len]; simp; omega)
    have a6 : Nat.blt ((pre.length : Nat) : Int).toNat (rowI acc (n :: suf).length).length = true := blt_t (by rw [rowI_len]; simp; omega)
    have hn := node_eq (e := e) (acc := acc) (m := (n :: suf).length) (i := pre.length) (n := n) (by simp; omega) a3' hlt (fun k hk => by have := hal k hk; omega)
    have good : ∀ y : Bool, nodeV acc n = (b2i y, 0) → latL (n :: suf) acc = latL suf (acc ++ [y]) →
        match latL (n :: suf) acc with
        | some l => k98 T.rb (rowI acc (n :: suf).length) e (pre.length : Nat) = some (.inr (l.map b2i))
        | none => ∃ u, k98 T.rb (rowI acc (n :: suf).length) e (pre.length : Nat) = some (.inl (u, 0, 11)) := by
      intro y h1 h2
      have hb : b98 T.rf T.rb (rowI acc (n :: suf).length) e (pre.length : Nat) = k98 T.rb (rowI (acc ++ [y]) suf.length) e ((pre ++ [n]).length : Nat) := by
        simp only [b98, a1, cond_true, hn, h1, Option.bind_some, nbt (show (0 : Int) = 0 from rfl), cond_false, a5, a6, hset, a4]
      have ih := ih y
      rw [h2]
      cases hl : latL suf (acc ++ [y]) with
      | none => rw [hl] at ih; obtain ⟨u, ih⟩ := ih; exact ⟨u, ob98 (hb.trans ih)⟩
      | some l => rw [hl] at ih; exact ob98 (hb.trans ih)
    cases hst : strict n.1
    · exact good (lateK acc (kidsI n)) (by unfold nodeV; rw [hst]; rfl) (by rw [latL, hst]; rfl)
    · cases hL : lateK acc (kidsI n)
      · exact good (decide (n.1 = 21)) (by unfold nodeV; rw [hst, hL]; rfl) (by rw [latL, hst, hL]; rfl)
      · have h2 : latL (n :: suf) acc = none := by rw [latL, hst, hL]; rfl
        rw [h2]
        refine ⟨rowI acc (n :: suf).length, ob98 ?_⟩
        have h1 : nodeV acc n = (0, 11) := by unfold nodeV; rw [hst, hL]; rfl
        simp only [b98, a1, cond_true, hn, h1, Option.bind_some, nbf (show (11 : Int) ≠ 0 by decide)]

theorem refOf_eq {e : List Nd} (h : e.length ≤ 1000000) : c78 T.rf e = some (ofE e) := or78 (by
  simp only [r78, refMay_eq h, Option.bind_some, ofE]
  cases hm : mayB e
  · rw [if_neg (by decide)]; rfl
  have hM := may_P hm
  have hl := hM.len
  have hpos := List.length_pos_iff.2 hM.ne
  rw [if_pos rfl, Bool.not_true, cond_false, inb'_nat, dt (show e.length ≤ most by unfold most; omega), cond_true, inb'_nat, dt (Nat.le_refl _), cond_true]
  have h0 := refOf_loop0 e hM.ahead hl e [] [] rfl rfl
  simp only [rowI, List.map_nil, List.nil_append, List.length_nil] at h0
  rw [show ((0 : Nat) : Int) = (0 : Int) from rfl] at h0
  cases hL : latL e [] with
  | none =>
    rw [hL] at h0
    obtain ⟨u, h0⟩ := h0
    rw [h0]; rfl
  | some l =>
    rw [hL] at h0
    have hll := latL_len e [] l hL
    simp only [List.length_nil, Nat.zero_add] at hll
    have hne : l.map b2i ≠ [] := fun hh => by have := congrArg List.length hh; simp at this; rw [this] at hll; simp at hll; omega
    rw [h0]
    simp only [Option.bind_some]
    rw [last_i hne (by simp; omega), inb_nat, dt (by simp; omega), cond_true, Int.toNat_natCast, nth_t (by simp; omega), Option.bind_some]
    have hg : l.getLastD false = l[l.length - 1]'(by omega) := by
      rw [List.getLastD_eq_getLast?, List.getLast?_eq_getElem?, List.getElem?_eq_getElem (by omega)]; rfl
    rw [hg]
    simp [b2i])

end Go.Proofs.Ytcgipnodielieaa.R
