/-
  OUR OWN: whether a net is in order, and where each operator is needed last, by both.
-/
import Derived.Test.YtanomapnincmoaaSchD
namespace Go.Proofs.Ytanomapnincmoaa.R
open Go Go.Bm Go.Proofs
set_option linter.unusedVariables false
set_option linter.unusedSimpArgs false
set_option maxRecDepth 4000

/-! In order. -/
def isB (n : Nt) (i : Nat) : Bool := (opsN (opAtN n i)).all fun k => decide (k < i)
def isN (n : Nt) : Bool := decide (chkN n = 0) && (List.range n.1.length).all (isB n)
theorem isx_loop (i : Nat) : ∀ (suf pre : List Int), pre.length + suf.length ≤ 1000000 →
    ∃ z, k55 T.rb (i : Nat) (pre ++ suf) ((pre ++ suf).length : Nat) (pre.length : Nat) = some z ∧ ixP ((i : Nat) : Int) (suf.all fun k => decide (k < i)) z
  | [], pre, h => ⟨.inr ((i : Nat) : Int), ob55 (by simp only [b55, lt_end, lt_self, List.append_nil, cond_false]), rfl, rfl⟩
  | k :: suf, pre, h => by
    simp only [List.length_cons] at h
    obtain ⟨z, ih, hz⟩ := isx_loop i suf (pre ++ [k]) (by simp; omega)
    simp only [List.append_assoc, List.singleton_append] at ih
    have h1 : c42 T.rf ((i : Nat) : Int) k = some (((i : Nat) : Int), decide (k ≥ ((i : Nat) : Int))) := or42 rfl
    by_cases hk : k < i
    · refine ⟨z, ob55 ?_, ?_⟩
      · simp only [b55, lt_mid, inb_mid, nth_mid, cond_true, Option.bind_some, h1, df (show ¬ k ≥ ((i : Nat) : Int) by omega), cond_false, next_mid pre k (by omega)]
        exact ih
      · rw [List.all_cons, dt hk, Bool.true_and]; exact hz
    · refine ⟨.inl (((i : Nat) : Int), (pre.length : Nat)), ob55 ?_, rfl, by omega, by rw [List.all_cons, df hk]; rfl⟩
      simp only [b55, lt_mid, inb_mid, nth_mid, cond_true, Option.bind_some, h1, dt (show k ≥ ((i : Nat) : Int) by omega)]
theorem isC_eq (i : Nat) {l : List Int} (h : l.length ≤ 1000000) : c40 T.rf ((i : Nat) : Int) l = some (((i : Nat) : Int), !l.all fun k => decide (k < i)) := or40 (by
  obtain ⟨z, h0, hz⟩ := isx_loop i l [] (by simpa using h)
  rw [List.nil_append, List.length_nil, show ((0 : Nat) : Int) = (0 : Int) from rfl] at h0
  have hI : c41 T.rf ((i : Nat) : Int) l = some (ixO z) := or41 (by
    simp only [r41, h0, Option.bind_some]
    cases z <;> rfl)
  simp only [r40, hI, Option.bind_some, ixP_fin hz])
theorem isN_loop {n : Nt} (hm : mayN n = true) (hl : n.1.length ≤ 1000) : ∀ (m p : Nat), p + m = n.1.length →
    k54 T.rb n.1 (n.1.length : Nat) (p : Nat) = some (if (List.range' p m).all (isB n) = true then .inr () else .inl false)
  | 0, p, h => ob54 (by
    simp only [b54]
    rw [df (by omega), cond_false]; rfl)
  | m + 1, p, h => ob54 (by
    have hp : p < n.1.length := by omega
    have ih := isN_loop hm hl m (p + 1) (by omega)
    have hN := may_N hm
    have hLl := opsN_len (opAtN n p)
    rw [List.range'_succ, List.all_cons]
    simp only [b54, dt (show ((p : Nat) : Int) < ((n.1.length : Nat) : Int) by omega), cond_true, inb_nat, dt hp, Int.toNat_natCast, opAtN_nth hp, Option.bind_some, needsN_eq hm hp, ints_LN hN hp, isC_eq p (l := opsN (opAtN n p)) (by omega), wr_succ (show p < 4611686018427387904 by omega), ih]
    unfold isB
    cases (opsN (opAtN n p)).all fun k => decide (k < p) <;> rfl)
theorem IsN_eq {n : Nt} (h1 : n.1.length ≤ 1000) (h2 : n.2.1.length ≤ 1000) : c39 T.rf n = some (isN n) := or39 (by
  simp only [r39, CheckN_eq (n := n) (by omega) (by omega), Option.bind_some]
  unfold isN
  by_cases hc : chkN n = 0
  · have a := isN_loop (chk_may hc).1 h1 n.1.length 0 (by omega)
    rw [show ((0 : Nat) : Int) = (0 : Int) from rfl, ← List.range_eq_range'] at a
    rw [nbt hc, cond_false, dt hc, Bool.true_and, a, Option.bind_some]
    cases (List.range n.1.length).all (isB n) <;> rfl
  · rw [nbf hc, cond_true, df hc]; rfl)
/-! Where each is needed last. -/
def endF (n : Nt) : Nat → Nat → Int
  | 0, _ => -1
  | p + 1, k => if k ∈ LN n p then (p : Int) else endF n p k
def endsN (n : Nt) : List Int := if isN n = true then rowF n.1.length (endF n n.1.length) else []
theorem fill_loop {N : Nat} (p : Nat) (g : Nat → Int) : ∀ (suf pre : List Nat), (∀ k ∈ suf, k < N) → pre.length + suf.length ≤ 1000 →
    k61 T.rb (rowF N fun k => if k ∈ pre then (p : Int) else g k) (ints pre ++ ints suf) (p : Nat) ((ints pre ++ ints suf).length : Nat) ((ints pre).length : Nat) = some (rowF N (fun k => if k ∈ pre ++ suf then (p : Int) else g k), ints pre ++ ints suf)
  | [], pre, hs, hl => ob61 (by
    rw [show ints [] = [] from rfl, List.append_nil pre]
    simp only [b61, lt_end, lt_self, List.append_nil, cond_false])
  | k :: suf, pre, hs, hl => ob61 (by
    have hk := hs k List.mem_cons_self
    simp only [List.length_cons] at hl
    have e1 : ints (pre ++ [k]) ++ ints suf = ints pre ++ (k : Int) :: ints suf := by rw [ints_app]; simp [ints]
    have e2 : pre ++ [k] ++ suf = pre ++ k :: suf := by simp
    have e3 : ints pre ++ [(k : Int)] = ints (pre ++ [k]) := by rw [ints_app]; rfl
    have ih := fill_loop p g suf (pre ++ [k]) (fun j hj => hs j (List.mem_cons_of_mem _ hj)) (by simp; omega)
    rw [e1, e2] at ih
    have hpl : (ints pre).length < 4611686018427387904 := by rw [ints_len]; omega
    have hset : setNth (rowF N fun q => if q ∈ pre then (p : Int) else g q) k (p : Int) = rowF N fun q => if q ∈ pre ++ [k] then (p : Int) else g q := by
      rw [rowF_set]
      refine rowF_congr fun j _ => ?_
      by_cases e : j = k
      · rw [if_pos e, if_pos (by simp [e])]
      · rw [if_neg e]; simp [e]
    rw [ints_cons]
    simp only [b61, lt_mid, inb_mid, nth_mid, cond_true, Option.bind_some]
    simp only [inb_nat, rowF_len, dt hk, cond_true, Int.toNat_natCast, blt_t hk, hset, next_mid (ints pre) (k : Int) hpl, e3]
    exact ih)
theorem end_step (n : Nt) (p : Nat) : (rowF n.1.length fun k => if k ∈ LN n p then (p : Int) else endF n p k) = rowF n.1.length (endF n (p + 1)) := rfl
theorem end_start (N : Nat) (p : Nat) (g : Nat → Int) : (rowF N fun k => if k ∈ ([] : List Nat) then (p : Int) else g k) = rowF N g := rowF_congr fun k _ => by simp
theorem ends_loop {n : Nt} (hm : mayN n = true) (hl : n.1.length ≤ 1000) : ∀ (m p : Nat), p + m = n.1.length →
    k60 T.rb (rowF n.1.length (endF n p)) n.1 (n.1.length : Nat) (p : Nat) = some (rowF n.1.length (endF n n.1.length))
  | 0, p, h => ob60 (by
    have : p = n.1.length := by omega
    subst this
    simp only [b60, lt_self, cond_false])
  | m + 1, p, h => ob60 (by
    have hp : p < n.1.length := by omega
    have hN := may_N hm
    have ih := ends_loop hm hl m (p + 1) (by omega)
    have hLl := LN_len n p
    have h2 := fill_loop p (endF n p) (LN n p) [] (LN_lt hN hp) (by simp only [List.length_nil]; omega)
    rw [show ints [] = [] from rfl, List.nil_append, List.nil_append, List.length_nil, show ((0 : Nat) : Int) = (0 : Int) from rfl, end_start, end_step] at h2
    simp only [b60, dt (show ((p : Nat) : Int) < ((n.1.length : Nat) : Int) by omega), cond_true, inb_nat, dt hp, Int.toNat_natCast, opAtN_nth hp, Option.bind_some, needsN_eq hm hp, h2, wr_succ (show p < 4611686018427387904 by omega)]
    exact ih)
/-! So many times. -/
theorem and_mask {x : Nat} (h : x ≤ 1000) : andI .u64 ((x : Nat) : Int) 4294967295 = (x : Int) := by
  have h1 : (BitVec.ofInt IntKind.u64.bits ((x : Nat) : Int) &&& BitVec.ofInt IntKind.u64.bits 4294967295).toNat = x := by
    rw [BitVec.toNat_and]
    have e1 : (BitVec.ofInt IntKind.u64.bits ((x : Nat) : Int)).toNat = x := by
      rw [BitVec.toNat_ofInt]
      show (((x : Nat) : Int) % ((2 ^ 64 : Nat) : Int)).toNat = x
      omega
    have e2 : (BitVec.ofInt IntKind.u64.bits 4294967295).toNat = 2 ^ 32 - 1 := by decide
    rw [e1, e2, Nat.and_two_pow_sub_one_eq_mod]
    omega
  rw [andI, h1, IntWalk.u64_in _ (by omega)]
theorem shr_zero {x : Nat} (h : x ≤ 1000) : shrI .u64 ((x : Nat) : Int) 32 = 0 := by
  unfold shrI
  rw [show min (32 : Int).toNat IntKind.u64.bits = 32 from rfl, Int.fdiv_eq_ediv_of_nonneg _ (by decide)]
  omega
theorem Mul_eq {x : Nat} (h : x ≤ 1000) : c44 T.rf 1 ((x : Nat) : Int) = some (0, (x : Int)) := or44 (by
  have h64 : c45 T.rf 1 ((x : Nat) : Int) = some (0, (x : Int)) := or45 (by
    have a1 : shrI .u64 1 32 = 0 := by decide
    have a2 : andI .u64 1 4294967295 = 1 := by decide
    have w0 : IntKind.u64.wrap 0 = 0 := by decide
    have wx : IntKind.u64.wrap ((x : Nat) : Int) = (x : Int) := IntWalk.u64_in _ (by omega)
    have m0 : andI .u64 0 4294967295 = 0 := by decide
    have s0 : shrI .u64 0 32 = 0 := by decide
    simp only [r45, a1, a2, shr_zero h, and_mask h, Int.zero_mul, Int.one_mul, Int.mul_zero, Int.add_zero, Int.zero_add, w0, wx, m0, s0])
  simp only [r44, h64, Option.bind_some])
theorem rep_loop (N : Nat) (hN : N ≤ 1000) : ∀ (m c : Nat), 0 < c → c ≤ N → N ≤ c + m →
    k59 T.rb (List.replicate c (-1) ++ List.replicate (N - c) 0) (c : Nat) = some (List.replicate N (-1)) := by
  intro m
  induction m with
  | zero =>
    intro c h0 h1 h2
    have : c = N := by omega
    subst this
    refine ob59 ?_
    rw [Nat.sub_self, List.replicate_zero, List.append_nil]
    simp only [b59, List.length_replicate, lt_self, cond_false]
  | succ m ih =>
    intro c h0 h1 h2
    by_cases hc : c = N
    · subst hc
      refine ob59 ?_
      rw [Nat.sub_self, List.replicate_zero, List.append_nil]
      simp only [b59, List.length_replicate, lt_self, cond_false]
    · have hl : (List.replicate c (-1 : Int) ++ List.replicate (N - c) 0).length = N := by simp; omega
      have htk : (List.replicate c (-1 : Int) ++ List.replicate (N - c) 0).take c = List.replicate c (-1) := by
        rw [List.take_append_of_le_length (by simp)]; simp
      have hq : (List.take (N - c) (List.replicate c (-1 : Int))) = List.replicate (min (N - c) c) (-1) := List.take_replicate
      have hdr : (List.replicate c (-1 : Int) ++ List.replicate (N - c) 0).drop (c + min (N - c) c) = List.replicate (N - (c + min (N - c) c)) 0 := by
        rw [List.drop_append, List.length_replicate, List.drop_replicate, List.drop_replicate, show c - (c + min (N - c) c) = 0 by omega, List.replicate_zero, List.nil_append]
        congr 1; omega
      have hcat : List.replicate c (-1 : Int) ++ List.replicate (min (N - c) c) (-1) = List.replicate (c + min (N - c) c) (-1) := List.replicate_append_replicate
      have ih := ih (c + min (N - c) c) (by omega) (by omega) (by omega)
      refine ob59 ?_
      simp only [b59, hl, dt (show ((c : Nat) : Int) < ((N : Nat) : Int) by omega), cond_true, inb'_nat, dt h1, Int.toNat_natCast, Nat.sub_zero, sub_zero, htk, hq, List.length_replicate, ble_t (show c + min (N - c) c ≤ N by omega), hdr, hcat, Nat.min_comm c (N - c)]
      rw [wr (by omega), show ((c : Nat) : Int) + ((min (N - c) c : Nat) : Int) = ((c + min (N - c) c : Nat) : Int) by omega]
      exact ih
theorem Repeat_eq {N : Nat} (h : N ≤ 1000) : c43 T.rf [-1] ((N : Nat) : Int) = some (List.replicate N (-1)) := or43 (by
  have ht : k58 T.rb [-1] ((N : Nat) : Int) = some (List.replicate N (-1)) := ob58 (by
    have w1 : IntKind.u64.wrap ((([-1] : List Int).length : Nat) : Int) = 1 := by decide
    have wN : IntKind.u64.wrap ((N : Nat) : Int) = (N : Int) := IntWalk.u64_in _ (by omega)
    simp only [b58, w1, wN, Mul_eq h, Option.bind_some, df (show ¬ ((0 : Int) > 0) by decide), cond_false, df (show ¬ (((N : Nat) : Int) > 9223372036854775807) by omega), wr (x := ((N : Nat) : Int)) (by omega), inb'_t (x := ((N : Nat) : Int)) (n := most) (by omega) (by rw [show most = 274877906944 from rfl]; omega), cond_true, Int.toNat_natCast, inb'_nat, dt (Nat.le_refl N), List.length_replicate, Nat.zero_add]
    by_cases h0 : N = 0
    · subst h0
      have hz : k59 T.rb [] 0 = some [] := ob59 rfl
      exact (congrArg (fun q => Option.bind q fun z2 => some z2) hz).trans rfl
    · have hr := rep_loop N h N 1 (by omega) (by omega) (by omega)
      have ht1 : List.take N ([-1] : List Int) = [-1] := by
        rw [List.take_of_length_le]; simp; omega
      have hd1 : List.drop 1 (List.replicate N (0 : Int)) = List.replicate (N - 1) 0 := List.drop_replicate
      rw [ht1, show ([-1] : List Int).length = 1 from rfl, ble_t (show 1 ≤ N by omega), cond_true, List.take_zero, List.nil_append, hd1, show min 1 N = 1 by omega]
      rw [show List.replicate 1 (-1 : Int) = [-1] from rfl] at hr
      rw [hr, Option.bind_some])
  simp only [r43, df (show ¬ (((N : Nat) : Int) < 0) by omega), cond_false, ht, Option.bind_some])
theorem EndsN_eq {n : Nt} (h1 : n.1.length ≤ 1000) (h2 : n.2.1.length ≤ 1000) : c38 T.rf n = some (endsN n) := or38 (by
  simp only [r38, IsN_eq h1 h2, Option.bind_some]
  unfold endsN
  cases hi : isN n
  · rfl
  · have hc : chkN n = 0 := by rw [isN, Bool.and_eq_true] at hi; exact of_decide_eq_true hi.1
    have b := ends_loop (chk_may hc).1 h1 n.1.length 0 (by omega)
    rw [show ((0 : Nat) : Int) = (0 : Int) from rfl, show rowF n.1.length (endF n 0) = List.replicate n.1.length (-1) from (rowF_rep _ _).symm] at b
    simp only [Bool.not_true, cond_false, Repeat_eq h1, Option.bind_some, b, if_pos])

/-! A net told anew. -/
theorem own_loop (n : Nt) (hl : n.1.length ≤ 100000) (r i_ : List Int) : ∀ (suf pre : List Od), n.1 = pre ++ suf → k1 T.rb n r i_ pre (pre.length : Nat) = some (n, r, i_, n.1)
  | [], pre, he => ob1 (by
    rw [List.append_nil] at he
    simp only [b1, he, lt_self, cond_false])
  | x :: suf, pre, he => ob1 (by
    have hll : n.1.length = pre.length + (suf.length + 1) := by rw [he]; simp
    have ih := own_loop n hl r i_ suf (pre ++ [x]) (by simp [he])
    have hlt : decide (((pre.length : Nat) : Int) < ((n.1.length : Nat) : Int)) = true := dt (by omega)
    have hin : inb ((pre.length : Nat) : Int) n.1.length = true := inb_t (by omega) (by omega)
    have hnt : nth n.1 ((pre.length : Nat) : Int).toNat = some x := by rw [he]; exact nth_mid pre x suf
    simp only [b1, hlt, hin, hnt, cond_true, Option.bind_some, ble_most (show pre.length + 1 ≤ 274877906944 by omega), Bool.and_true, next_mid pre x (by omega)]
    exact ih)
theorem Own_eq {n : Nt} (hl : n.1.length ≤ 100000) : c3 T.rf n = some n := or3 (by
  have h := own_loop n hl n.2.1 n.2.2 n.1 [] rfl
  rw [List.length_nil, show ((0 : Nat) : Int) = (0 : Int) from rfl] at h
  simp only [r3, h, Option.bind_some])
theorem Ints_loop : ∀ (s p : List Int), p.length + s.length < 4611686018427387904 →
    k228 T.rb (p ++ s) (p ++ s) (p.length : Nat) = some (.inr ())
  | [], p, h => ob228 (by simp only [b228, lt_end, lt_self, List.append_nil, cond_false])
  | x :: s, p, h => ob228 (by
    simp only [List.length_cons] at h
    have ih := Ints_loop s (p ++ [x]) (by simp; omega)
    simp only [List.append_assoc, List.singleton_append] at ih
    simp only [b228, lt_mid, inb_mid, nth_mid, cond_true, Option.bind_some, nbt (show x = x from rfl), cond_false, next_mid p x (by omega), ih])
theorem Ints_self {a : List Int} (h : a.length < 4611686018427387904) : c73 T.rf a a = some true := or73 (by
  have := Ints_loop a [] (by simpa using h)
  simp only [List.nil_append, List.length_nil] at this
  rw [show ((0 : Nat) : Int) = (0 : Int) from rfl] at this
  simp only [r73, nbt rfl, cond_false, this]; rfl)
def smallN (n : Nt) : Bool := decide (n.1.length ≤ 300) && (decide (n.2.1.length ≤ 60) && decide (n.2.2.length ≤ 60))
theorem SmallN_eq (n : Nt) : c76 T.rf n = some (smallN n) := or76 (by
  simp only [r76]
  unfold smallN
  by_cases h1 : n.1.length ≤ 300
  · rw [dt (by omega), cond_true, dt h1, Bool.true_and]
    by_cases h2 : n.2.1.length ≤ 60
    · rw [dt (by omega), cond_true, dt h2, Bool.true_and]
      by_cases h3 : n.2.2.length ≤ 60
      · rw [dt (by omega), dt h3]
      · rw [df (by omega), df h3]
    · rw [df (by omega), cond_false, df h2]; rfl
  · rw [df (by omega), cond_false, df h1]; rfl)
theorem small_N {n : Nt} (h : smallN n = true) : n.1.length ≤ 300 ∧ n.2.1.length ≤ 60 ∧ n.2.2.length ≤ 60 := by
  rw [smallN, Bool.and_eq_true, Bool.and_eq_true] at h
  exact ⟨of_decide_eq_true h.1, of_decide_eq_true h.2.1, of_decide_eq_true h.2.2⟩

end Go.Proofs.Ytanomapnincmoaa.R
