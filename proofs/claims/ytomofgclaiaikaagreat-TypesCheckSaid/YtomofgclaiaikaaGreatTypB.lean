/-
  OUR OWN: what the document's functions of layer 9 come to: the type of a node; of an expression.
-/
import Derived.Test.YtomofgclaiaikaaGreatTypA
namespace Go.Proofs.YtomofgclaiaikaaGreat.R
open Go Go.Bm Go.Proofs
set_option linter.unusedVariables false
set_option linter.unusedSimpArgs false
set_option maxRecDepth 4000

theorem stream_loop (s : List UInt8) : ∀ (suf pre : List Pm), pre.length + suf.length ≤ 1000000 →
    k129 T.rb (pre ++ suf) s (pre.length : Nat) = some (match findX (isP s) suf with
      | some p => .inl (p.2, true)
      | none => .inr ())
  | [], pre, h => ob129 (by simp only [b129, lt_end, lt_self, List.append_nil, cond_false]; rfl)
  | x :: suf, pre, h => ob129 (by
    simp only [List.length_cons] at h
    have ih := stream_loop s suf (pre ++ [x]) (by simp; omega)
    simp only [List.append_assoc, List.singleton_append] at ih
    simp only [b129, lt_mid, inb_mid, nth_mid, cond_true, Option.bind_some, next_mid pre x (by omega), ih, findX]
    rw [show isP s x = (x.1 == s) from rfl]
    cases x.1 == s <;> rfl)
theorem stream_eq {l : List Pm} {s : List UInt8} (h : l.length ≤ 1000000) : c108 T.rf l s = some (match findX (isP s) l with
      | some p => (p.2, true)
      | none => (0, false)) := or108 (by
  have := stream_loop s l [] (by simpa using h)
  simp only [List.nil_append, List.length_nil] at this
  rw [show ((0 : Nat) : Int) = (0 : Int) from rfl] at this
  simp only [r108, this, Option.bind_some]
  cases findX (isP s) l <;> rfl)

theorem refNode_loop (s : List UInt8) : ∀ (suf pre : List Un), pre.length + suf.length ≤ 1000000 →
    k130 T.rb (pre ++ suf) s (pre.length : Nat) = some (match findI (isU s) suf pre.length with
      | some i => .inl ((i : Nat) : Int)
      | none => .inr ())
  | [], pre, h => ob130 (by simp only [b130, lt_end, lt_self, List.append_nil, cond_false]; rfl)
  | x :: suf, pre, h => ob130 (by
    simp only [List.length_cons] at h
    have ih := refNode_loop s suf (pre ++ [x]) (by simp; omega)
    simp only [List.append_assoc, List.singleton_append] at ih
    rw [show (pre ++ [x]).length = pre.length + 1 by simp] at ih
    simp only [b130, lt_mid, inb_mid, nth_mid, cond_true, Option.bind_some, wr_succ (show pre.length < 4611686018427387904 by omega), ih, findI, isU]
    cases x.2.1 == s
    · rfl
    · cases x.1 <;> rfl)
theorem refNode_eq {l : List Un} {s : List UInt8} (h : l.length ≤ 1000000) : c110 T.rf l s = some (match findI (isU s) l 0 with
      | some i => ((i : Nat) : Int)
      | none => -1) := or110 (by
  have := refNode_loop s l [] (by simpa using h)
  simp only [List.nil_append, List.length_nil] at this
  rw [show ((0 : Nat) : Int) = (0 : Int) from rfl] at this
  simp only [r110, this, Option.bind_some]
  cases findI (isU s) l 0 <;> rfl)

theorem refArgs_loop {e : List Nd} (acc : List Int) (he : e.length ≤ 1000000) : ∀ (f : Nat) (at_ : Int) (c : Nat), Chain e acc.length f at_ → c + f ≤ 1000000 →
    k131 T.rb e (c : Nat) at_ = some (((c + (argsR e acc f at_).length : Nat) : Int))
  | 0, at_, c, h, ho => ob131 (by
    have h : at_ < 0 := h
    simp only [b131, df (show ¬ at_ ≥ 0 by omega), cond_false, argsR, List.length_nil, Nat.add_zero])
  | f + 1, at_, c, h, ho => ob131 (by
    by_cases h0 : at_ < 0
    · simp only [b131, df (show ¬ at_ ≥ 0 by omega), cond_false, argsR, if_pos h0, List.length_nil, Nat.add_zero]
    rcases h with h | ⟨h1, n, h2, h3, h4, h5, h6⟩
    · exact absurd h h0
    have hl := nth_lt h2
    have ih := refArgs_loop acc he f n.2.2.1 (c + 1) h6 (by omega)
    simp only [b131, dt (show at_ ≥ 0 by omega), cond_true, inb_t (show 0 ≤ at_ by omega) (show at_ < e.length by omega), h2, Option.bind_some, wr_succ (show c < 4611686018427387904 by omega), ih, argsR, if_neg h0, List.length_cons]
    congr 2; omega)
theorem refArgs_eq {e : List Nd} {acc : List Int} {i : Nat} {n : Nd} {f : Nat} (he : e.length ≤ 1000000) (hn : nth e i = some n) (h : Chain e acc.length f n.2.1) (hf : f ≤ 100000) : c111 T.rf e (i : Nat) = some (((argsR e acc f n.2.1).length : Nat) : Int) := or111 (by
  have h1 := refArgs_loop acc he f n.2.1 0 h (by omega)
  rw [show ((0 : Nat) : Int) = (0 : Int) from rfl, Nat.zero_add] at h1
  simp only [r111, inb_nat, dt (nth_lt hn), cond_true, Int.toNat_natCast, hn, Option.bind_some, h1])

theorem sameT_map : ∀ (ps : List Pm) (xs : List Int), ps.length = xs.length → sameT ps xs = decide (ps.map (·.2) = xs)
  | [], [], _ => rfl
  | p :: ps, x :: xs, h => by
    have ih := sameT_map ps xs (by simpa using h)
    rw [sameT, ih, List.map_cons]
    by_cases h1 : p.2 = x
    · rw [bt h1, Bool.true_and, h1]
      by_cases h2 : ps.map (·.2) = xs
      · rw [dt h2, dt (by rw [h2])]
      · rw [df h2, df (fun hh => h2 (List.cons.inj hh).2)]
    · rw [bf h1, df (fun hh => h1 (List.cons.inj hh).1)]; rfl
  | [], _ :: _, h => by simp at h
  | _ :: _, [], h => by simp at h
theorem sameT_rev {ps : List Pm} {xs : List Int} (h : ps.length = xs.length) : sameT ps.reverse xs = sameT ps xs.reverse := by
  rw [sameT_map _ _ (by simpa using h), sameT_map _ _ (by simpa using h), List.map_reverse]
  by_cases h1 : (ps.map (·.2)).reverse = xs
  · rw [dt h1, dt (by rw [← h1]; simp)]
  · rw [df h1, df (fun hh => h1 (by rw [hh]; simp))]

theorem row_at {acc : List Int} {m : Nat} {k : Int} (h : 0 ≤ k) (h2 : k < acc.length) : inb k (row acc m).length = true ∧ nth (row acc m) k.toNat = some (acc.getD k.toNat 0) :=
  ⟨inb_t h (by rw [row_len]; omega), row_get (by omega)⟩

theorem call_loop {e : List Nd} (acc : List Int) (m : Nat) (he : e.length ≤ 1000000) {units : List Un} {ui : Nat} {u : Un} (hu : nth units ui = some u) : ∀ (f : Nat) (at_ : Int) (P Q : List Pm), Chain e acc.length f at_ → u.2.2.1 = P ++ Q → P.length = (argsR e acc f at_).length → P.length ≤ 1000000 →
    k132 T.rb (row acc m) e units (ui : Nat) ((P.length : Int) - 1) at_ = some (bif sameT P.reverse (argsR e acc f at_) then .inr (row acc m) else .inl (row acc m, 0, 10))
  | 0, at_, P, Q, h, hP, hl, hb => ob132 (by
    have h : at_ < 0 := h
    have : P = [] := List.eq_nil_of_length_eq_zero (by rw [hl]; rfl)
    subst this
    simp only [b132, df (show ¬ at_ ≥ 0 by omega), cond_false]; rfl)
  | f + 1, at_, P, Q, h, hP, hl, hb => ob132 (by
    by_cases h0 : at_ < 0
    · have : P = [] := List.eq_nil_of_length_eq_zero (by rw [hl, argsR, if_pos h0]; rfl)
      subst this
      simp only [b132, df (show ¬ at_ ≥ 0 by omega), cond_false]; rfl
    rcases h with h | ⟨h1, n, h2, h3, h4, h5, h6⟩
    · exact absurd h h0
    have hal : argsR e acc (f + 1) at_ = acc.getD n.2.1.toNat 0 :: argsR e acc f n.2.2.1 := by rw [argsR, if_neg h0, h2]
    rw [hal] at hl ⊢
    have hne : P ≠ [] := by rintro rfl; simp at hl
    obtain ⟨P', p, rfl⟩ : ∃ P' p, P = P' ++ [p] := ⟨P.dropLast, P.getLast hne, (List.dropLast_concat_getLast hne).symm⟩
    simp only [List.length_append, List.length_cons, List.length_nil] at hl hb
    have hlt := nth_lt h2
    have ih := call_loop acc m he hu f n.2.2.1 P' (p :: Q) h6 (by rw [hP]; simp) (by omega) (by omega)
    obtain ⟨r1, r2⟩ := row_at (m := m) h3 h4
    have hp : nth u.2.2.1 P'.length = some p := by rw [hP, nth_getElem?]; simp
    have hpl : P'.length < u.2.2.1.length := nth_lt hp
    rw [show (((P' ++ [p]).length : Nat) : Int) - 1 = ((P'.length : Nat) : Int) by simp]
    simp only [b132, dt (show at_ ≥ 0 by omega), cond_true, inb_t (show 0 ≤ at_ by omega) (show at_ < e.length by omega), h2, Option.bind_some, r1, r2, inb_nat, dt (nth_lt hu), Int.toNat_natCast, hu, dt hpl, hp, wr_pred (show P'.length < 4611686018427387904 by omega), ih]
    rw [List.reverse_append, List.reverse_singleton, List.singleton_append, sameT]
    by_cases hxy : acc.getD n.2.1.toNat 0 = p.2
    · rw [nbt hxy, bt hxy.symm, cond_false, Bool.true_and]
    · rw [nbf hxy, bf (fun hh => hxy hh.symm), cond_true]; rfl)

theorem refCall_eq {e : List Nd} {acc : List Int} {m : Nat} {units : List Un} {i : Nat} {n : Nd} (hun : units.length ≤ 1000000) (hin : ∀ u ∈ units, u.2.2.1.length ≤ 1000000) (he : e.length ≤ 5001) (ha : acc.length ≤ 5001) (hn : nth e i = some n) (hc : Chain e acc.length (acc.length + 1) n.2.1) :
    c109 T.rf (row acc m) e (i : Nat) units = some (row acc m, callT units n.2.2.2.2.2 (argsR e acc (acc.length + 1) n.2.1).reverse) := or109 (by
  simp only [r109, inb_nat, dt (nth_lt hn), cond_true, Int.toNat_natCast, hn, Option.bind_some, refNode_eq hun, callT]
  have hf := findI_spec (isU n.2.2.2.2.2) units []
  rw [List.length_nil, List.nil_append] at hf
  cases hi : findI (isU n.2.2.2.2.2) units 0 with
  | none => rw [hi] at hf; simp only [hf]; rfl
  | some j =>
    rw [hi] at hf
    obtain ⟨_, h2, u, h4, h5⟩ := hf
    have hu : u ∈ units := by rw [nth_getElem?] at h4; exact List.mem_of_getElem? h4
    simp only [h5, df (show ¬ ((j : Nat) : Int) < 0 by omega), cond_false, inb_nat, dt (show j < units.length by omega), cond_true, Int.toNat_natCast, h4, Option.bind_some, refArgs_eq (show e.length ≤ 1000000 by omega) hn hc (by omega), List.length_reverse]
    by_cases hl : u.2.2.1.length = (argsR e acc (acc.length + 1) n.2.1).length
    · have hul := hin u hu
      have h6 := call_loop acc m (show e.length ≤ 1000000 by omega) h4 (acc.length + 1) n.2.1 u.2.2.1 [] hc (by simp) hl hul
      rw [nbt (by rw [hl]), cond_false, if_neg (by intro hh; exact hh hl), wr (by omega), h6, sameT_rev hl]
      cases sameT u.2.2.1 (argsR e acc (acc.length + 1) n.2.1).reverse <;> rfl
    · rw [nbf (by intro hh; exact hl (by omega)), cond_true, if_pos hl])

theorem both_loop (acc : List Int) (m : Nat) (w : Int) : ∀ (suf pre : List Int), (∀ k ∈ suf, 0 ≤ k ∧ k < acc.length) → pre.length + suf.length ≤ 1000 →
    k133 T.rb (row acc m) (pre ++ suf) w (pre.length : Nat) = some (bif (suf.map fun k => acc.getD k.toNat 0).all (· == w) then .inr (row acc m, pre ++ suf) else .inl (row acc m, pre ++ suf, false))
  | [], pre, h, hl => ob133 (by simp only [b133, lt_end, lt_self, List.append_nil, cond_false]; rfl)
  | k :: suf, pre, h, hl => ob133 (by
    simp only [List.length_cons] at hl
    obtain ⟨h1, h2⟩ := h k List.mem_cons_self
    obtain ⟨r1, r2⟩ := row_at (m := m) h1 h2
    have ih := both_loop acc m w suf (pre ++ [k]) (fun q hq => h q (List.mem_cons_of_mem _ hq)) (by simp; omega)
    simp only [List.append_assoc, List.singleton_append] at ih
    simp only [b133, lt_mid, inb_mid, nth_mid, cond_true, Option.bind_some, r1, r2, next_mid pre k (by omega), ih, List.map_cons, List.all_cons]
    by_cases hx : acc.getD k.toNat 0 = w
    · rw [nbt hx, bt hx, cond_false, Bool.true_and]
    · rw [nbf hx, bf hx, cond_true]; rfl)
theorem both_eq {e : List Nd} {acc : List Int} {m i : Nat} {n : Nd} {w : Int} (hn : nth e i = some n) (hk : ∀ k ∈ kids n, 0 ≤ k ∧ k < acc.length) :
    c112 T.rf (row acc m) e (i : Nat) w = some (row acc m, ((kids n).map fun k => acc.getD k.toNat 0).all (· == w)) := or112 (by
  have h3 := kids_len n
  have h0 := both_loop acc m w (kids n) [] hk (by simp; omega)
  simp only [List.nil_append, List.length_nil] at h0
  rw [show ((0 : Nat) : Int) = (0 : Int) from rfl] at h0
  simp only [r112, inb_nat, dt (nth_lt hn), cond_true, Int.toNat_natCast, hn, Option.bind_some, refKids_eq, h0]
  cases ((kids n).map fun k => acc.getD k.toNat 0).all (· == w) <;> rfl)
def oneT (b : Bool) (t : Int) : Int × Int := bif b then (t, 0) else (0, 10)
theorem one_eq (b : Bool) (t : Int) : c113 T.rf b t = some (oneT b t) := or113 (by cases b <;> rfl)

theorem operT_all (w : Int) (hw : w ≠ 0) : ∀ (ts : List Int) (first : Bool) (is : Int), (first = false → is = w) → (match operT w ts first is with
    | none => false
    | some _ => true) = ts.all (· == w)
  | [], first, is, h => rfl
  | x :: r, first, is, h => by
    rw [operT, List.all_cons]
    by_cases hx : x = w
    · rw [if_neg (fun hh => hh.2 hx), if_neg (fun hh => hh.2 (by rw [hx, h hh.1])), bt hx, Bool.true_and]
      exact operT_all w hw r false x (fun _ => hx)
    · rw [if_pos ⟨hw, hx⟩, bf hx]; rfl
theorem operT_shape {w is2 : Int} (hw : w ≠ 0) (h2 : is2 ≠ 0) (ts : List Int) : (match operT w ts true 0 with
    | none => ((0, 10) : Int × Int)
    | some is => (if is2 ≠ 0 then is2 else is, 0)) = oneT (ts.all (· == w)) is2 := by
  have := operT_all w hw ts true 0 (fun h => by cases h)
  rw [← this]
  cases operT w ts true 0 with
  | none => rfl
  | some x => simp only [if_pos h2]; rfl
theorem operT_two (x y : Int) : operT 0 [x, y] true 0 = if x = y then some y else none := by
  by_cases h : x = y
  · subst h; simp [operT]
  · have h' : ¬ y = x := fun e => h e.symm
    simp [operT, h, h']

theorem refTNode_eq {streams : List Pm} {units : List Un} {e : List Nd} {acc : List Int} {m i : Nat} {n : Nd} (hst : streams.length ≤ 1000000) (hun : units.length ≤ 1000000) (hin : ∀ u ∈ units, u.2.2.1.length ≤ 1000000) (he : e.length ≤ 5001) (ha : acc.length ≤ 5001) (hi : nth e i = some n) (hn : NodeOk e acc.length n) :
    c107 T.rf (row acc m) e (i : Nat) streams units = some (row acc m, nodeL streams units e acc n) := or107 (by
  obtain ⟨⟨ho1, ho2⟩, hk, hc⟩ := hn
  unfold r107
  rw [inb_nat, dt (nth_lt hi), cond_true, Int.toNat_natCast, hi, Option.bind_some]
  have hb := fun w => both_eq (m := m) (w := w) hi hk
  have hcall := fun h27 => refCall_eq (m := m) hun hin he ha hi (hc h27)
  obtain ⟨op, a, b, c, k, nm⟩ := n
  have hA : ∀ x ∈ kids (op, a, b, c, k, nm), inb x (row acc m).length = true ∧ nth (row acc m) x.toNat = some (acc.getD x.toNat 0) := fun x hx => row_at (hk x hx).1 (hk x hx).2
  have pick : op = 1 ∨ op = 2 ∨ op = 3 ∨ op = 28 ∨ op = 27 ∨ (op = 5 ∨ op = 14 ∨ op = 15 ∨ op = 16 ∨ op = 17 ∨ op = 18) ∨ (op = 12 ∨ op = 13) ∨ (op = 10 ∨ op = 11) ∨ op = 19 ∨ op = 21 ∨ op = 26 ∨ (op = 4 ∨ op = 6 ∨ op = 7 ∨ op = 8 ∨ op = 9 ∨ op = 20 ∨ op = 22 ∨ op = 23 ∨ op = 24 ∨ op = 25) := by
    simp only at ho1 ho2; omega
  rcases pick with h | h | h | h | h | h | h | h | h | h | h | h
  · subst h; rfl
  · subst h; rfl
  · subst h
    refine Eq.trans (b := (c108 T.rf streams nm).bind fun y => bif !y.2 then some (row acc m, 0, 8) else some (row acc m, y.1, 0)) rfl ?_
    rw [stream_eq hst, Option.bind_some]
    show _ = some (row acc m, (match findX (isP nm) streams with
      | none => ((0, 8) : Int × Int)
      | some p => (p.2, 0)))
    cases findX (isP nm) streams <;> rfl
  · subst h; rfl
  · subst h
    refine Eq.trans (b := (c109 T.rf (row acc m) e (i : Nat) units).bind fun y => some y) rfl ?_
    rw [hcall rfl]; rfl
  · have hs : some (row acc m, nodeL streams units e acc (op, a, b, c, k, nm)) = (c112 T.rf (row acc m) e (i : Nat) 2).bind fun y => (c113 T.rf y.2 2).bind fun z => some (y.1, z) := by
      rw [hb 2, Option.bind_some, one_eq, Option.bind_some, ← operT_shape (w := 2) (is2 := 2) (by decide) (by decide)]
      rcases h with h | h | h | h | h | h <;> subst h <;> rfl
    rw [hs]
    rcases h with h | h | h | h | h | h <;> subst h <;> rfl
  · have hs : some (row acc m, nodeL streams units e acc (op, a, b, c, k, nm)) = (c112 T.rf (row acc m) e (i : Nat) 2).bind fun y => (c113 T.rf y.2 1).bind fun z => some (y.1, z) := by
      rw [hb 2, Option.bind_some, one_eq, Option.bind_some, ← operT_shape (w := 2) (is2 := 1) (by decide) (by decide)]
      rcases h with h | h <;> subst h <;> rfl
    rw [hs]
    rcases h with h | h <;> subst h <;> rfl
  · have hkk : kids (op, a, b, c, k, nm) = [a, b] := by
      simp only [kids]; rw [if_neg (by omega), if_neg (by omega), if_neg (by omega), if_pos (by omega)]
    rw [hkk] at hA
    obtain ⟨a1, a2⟩ := hA a (by simp)
    obtain ⟨b1, b2⟩ := hA b (by simp)
    have hs : some (row acc m, nodeL streams units e acc (op, a, b, c, k, nm)) = some (row acc m, oneT (acc.getD a.toNat 0 == acc.getD b.toNat 0) 1) := by
      rw [nodeL, hkk]
      have : nodeT streams units op nm ([a, b].map fun k => acc.getD k.toNat 0) (argsR e acc (acc.length + 1) a).reverse = (match operT 0 [acc.getD a.toNat 0, acc.getD b.toNat 0] true 0 with
        | none => ((0, 10) : Int × Int)
        | some is => (if (1 : Int) ≠ 0 then 1 else is, 0)) := by
        rcases h with h | h <;> subst h <;> rfl
      show some (row acc m, nodeT streams units op nm ([a, b].map fun k => acc.getD k.toNat 0) (argsR e acc (acc.length + 1) a).reverse) = _
      rw [this, operT_two]
      by_cases hx : acc.getD a.toNat 0 = acc.getD b.toNat 0
      · rw [if_pos hx, bt hx]; rfl
      · rw [if_neg hx, bf hx]; rfl
    rw [hs]
    refine Eq.trans (b := bif inb a (row acc m).length then (nth (row acc m) a.toNat).bind fun x => bif inb b (row acc m).length then (nth (row acc m) b.toNat).bind fun y => (c113 T.rf (x == y) 1).bind fun z => some (row acc m, z) else none else none) (by rcases h with h | h <;> subst h <;> rfl) ?_
    rw [a1, cond_true, a2, Option.bind_some, b1, cond_true, b2, Option.bind_some, one_eq, Option.bind_some]
  · subst h
    have hkk : kids (19, a, b, c, k, nm) = [a, b] := by simp [kids]
    rw [hkk] at hA
    obtain ⟨a1, a2⟩ := hA a (by simp)
    obtain ⟨b1, b2⟩ := hA b (by simp)
    refine Eq.trans (b := bif inb a (row acc m).length then (nth (row acc m) a.toNat).bind fun x => bif inb b (row acc m).length then (nth (row acc m) b.toNat).bind fun y => bif inb a (row acc m).length then (nth (row acc m) a.toNat).bind fun x' => (c113 T.rf (x == y) x').bind fun z => some (row acc m, z) else none else none else none) rfl ?_
    rw [a1, cond_true, a2, Option.bind_some, b1, cond_true, b2, Option.bind_some, cond_true, Option.bind_some, one_eq, Option.bind_some, nodeL, hkk]
    show _ = some (row acc m, (match operT 0 [acc.getD a.toNat 0, acc.getD b.toNat 0] true 0 with
        | none => ((0, 10) : Int × Int)
        | some is => (if (0 : Int) ≠ 0 then 0 else is, 0)))
    rw [operT_two]
    by_cases hx : acc.getD a.toNat 0 = acc.getD b.toNat 0
    · rw [if_pos hx, bt hx, hx]; rfl
    · rw [if_neg hx, bf hx]; rfl
  · subst h
    have hkk : kids (21, a, b, c, k, nm) = [a] := by simp [kids]
    rw [hkk] at hA
    obtain ⟨a1, a2⟩ := hA a (by simp)
    refine Eq.trans (b := bif inb a (row acc m).length then (nth (row acc m) a.toNat).bind fun x => some (row acc m, x, 0) else none) rfl ?_
    rw [a1, cond_true, a2, Option.bind_some, nodeL, hkk]; rfl
  · subst h
    have hkk : kids (26, a, b, c, k, nm) = [a, b, c] := by simp [kids]
    rw [hkk] at hA
    obtain ⟨a1, a2⟩ := hA a (by simp)
    obtain ⟨b1, b2⟩ := hA b (by simp)
    obtain ⟨c1, c2⟩ := hA c (by simp)
    refine Eq.trans (b := bif inb a (row acc m).length then (nth (row acc m) a.toNat).bind fun x => bif x == 1 then (bif inb b (row acc m).length then (nth (row acc m) b.toNat).bind fun y => bif inb c (row acc m).length then (nth (row acc m) c.toNat).bind fun z => bif inb b (row acc m).length then (nth (row acc m) b.toNat).bind fun y' => (c113 T.rf (y == z) y').bind fun o => some (row acc m, o) else none else none else none)
      else (bif inb b (row acc m).length then (nth (row acc m) b.toNat).bind fun y => (c113 T.rf false y).bind fun o => some (row acc m, o) else none) else none) rfl ?_
    rw [a1, cond_true, a2, Option.bind_some, b1, b2, c1, c2, nodeL, hkk]
    show _ = some (row acc m, (if acc.getD a.toNat 0 ≠ 1 then ((0, 10) : Int × Int) else if acc.getD b.toNat 0 ≠ acc.getD c.toNat 0 then (0, 10) else (acc.getD b.toNat 0, 0)))
    by_cases hx : acc.getD a.toNat 0 = 1
    · rw [bt hx, if_neg (fun hh => hh hx)]
      simp only [cond_true, Option.bind_some, one_eq]
      by_cases hy : acc.getD b.toNat 0 = acc.getD c.toNat 0
      · rw [bt hy, if_neg (fun hh => hh hy)]; rfl
      · rw [bf hy, if_pos hy]; rfl
    · rw [bf hx, if_pos hx]
      simp only [cond_true, cond_false, Option.bind_some, one_eq]; rfl
  · have hs : some (row acc m, nodeL streams units e acc (op, a, b, c, k, nm)) = (c112 T.rf (row acc m) e (i : Nat) 1).bind fun y => (c113 T.rf y.2 1).bind fun z => some (y.1, z) := by
      rw [hb 1, Option.bind_some, one_eq, Option.bind_some, ← operT_shape (w := 1) (is2 := 1) (by decide) (by decide)]
      rcases h with h | h | h | h | h | h | h | h | h | h <;> subst h <;> rfl
    rw [hs]
    rcases h with h | h | h | h | h | h | h | h | h | h <;> subst h <;> rfl)

theorem Types_loop {streams : List Pm} {units : List Un} (hE : EnvOk streams units) {e : List Nd} (hM : MayP e) : ∀ (suf pre : List Nd) (acc : List Int), e = pre ++ suf → acc.length = pre.length →
    match typL streams units e suf acc with
    | .inr l => k128 T.rb (row acc suf.length) e streams units (pre.length : Nat) = some (.inr l)
    | .inl x => ∃ t, k128 T.rb (row acc suf.length) e streams units (pre.length : Nat) = some (.inl (t, [], x.2)) ∧ x.1 = 0 ∧ x.2 ≠ 0
  | [], pre, acc, h, ha => ob128 (by
    rw [h, List.append_nil]
    simp [b128, lt_self, row])
  | n :: suf, pre, acc, h, ha => by
    have hl := hM.len
    have hn : nth e pre.length = some n := by rw [h, nth_getElem?]; simp
    have hil := nth_lt hn
    have ih := fun y => Types_loop hE hM suf (pre ++ [n]) (acc ++ [y]) (by rw [h]; simp) (by simp [ha])
    have hno := nodeOk_of hM hn
    rw [← ha] at hno
    have hnode := refTNode_eq (m := suf.length + 1) hE.st hE.un hE.ins (show e.length ≤ 5001 by omega) (show acc.length ≤ 5001 by omega) hn hno
    have hrow : row acc (suf.length + 1) = acc ++ 0 :: List.replicate suf.length 0 := by simp [row, List.replicate_succ]
    have hset : ∀ y, setNth (row acc (suf.length + 1)) pre.length y = row (acc ++ [y]) suf.length := fun y => by
      rw [hrow, ← ha, setNth_mid]; simp [row]
    have hrl : (row acc (suf.length + 1)).length = acc.length + (suf.length + 1) := row_len _ _
    rw [typL]
    by_cases hz : (nodeL streams units e acc n).2 = 0
    · rw [if_neg (by intro hh; exact hh hz)]
      have step : ∀ r, k128 T.rb (row (acc ++ [(nodeL streams units e acc n).1]) suf.length) e streams units ((pre ++ [n]).length : Nat) = some r → k128 T.rb (row acc (n :: suf).length) e streams units (pre.length : Nat) = some r := fun r hr => ob128 (by
        simp only [List.length_cons, b128, dt (show ((pre.length : Nat) : Int) < ((e.length : Nat) : Int) by omega), cond_true, hnode, Option.bind_some, nbt hz, cond_false, inb_nat, hrl, dt (show pre.length < acc.length + (suf.length + 1) by omega), Int.toNat_natCast, blt_t (show pre.length < acc.length + (suf.length + 1) by omega), hset, next_mid pre n (by omega)]
        exact hr)
      have ih := ih (nodeL streams units e acc n).1
      cases hL : typL streams units e suf (acc ++ [(nodeL streams units e acc n).1]) with
      | inl x => rw [hL] at ih; obtain ⟨t, g1, g2, g3⟩ := ih; exact ⟨t, step _ g1, g2, g3⟩
      | inr l => rw [hL] at ih; exact step _ ih
    · rw [if_pos hz]
      exact ⟨row acc (suf.length + 1), ob128 (by
        simp only [List.length_cons, b128, dt (show ((pre.length : Nat) : Int) < ((e.length : Nat) : Int) by omega), cond_true, hnode, Option.bind_some, nbf hz]), rfl, hz⟩

theorem refOfTy_eq {e : List Nd} {streams : List Pm} {units : List Un} (hE : EnvOk streams units) (h : e.length ≤ 1000000) : c98 T.rf e streams units = some (ofTy e streams units) := or98 (by
  simp only [r98, refMay_eq h, Option.bind_some, ofTy]
  cases hm : mayB e
  · rw [if_neg (by decide)]; rfl
  have hl := (may_P hm).len
  obtain ⟨m1, m2, _, _⟩ := norm_may hm
  have hMn := may_P m1
  have hpos := List.length_pos_iff.2 hMn.ne
  have h0 := Types_loop hE hMn (norm e) [] [] rfl rfl
  simp only [List.length_nil, row, List.nil_append] at h0
  rw [show ((0 : Nat) : Int) = (0 : Int) from rfl] at h0
  have hT : ∀ r, k128 T.rb (List.replicate (norm e).length 0) (norm e) streams units 0 = some r → c106 T.rf (norm e) streams units = some (match r with
      | .inl u => u.2
      | .inr w => (w, 0)) := fun r hr => or106 (by
    simp only [r106, inb'_nat, dt (show (norm e).length ≤ most by unfold most; omega), dt (Nat.le_refl (norm e).length), cond_true, hr, Option.bind_some]
    cases r <;> rfl)
  rw [if_pos rfl, Bool.not_true, cond_false, Norm_eq h, Option.bind_some]
  cases hL : typL streams units (norm e) (norm e) [] with
  | inl x =>
    rw [hL] at h0
    obtain ⟨t, g1, g2, g3⟩ := h0
    rw [hT _ g1, Option.bind_some]
    simp only [nbf g3, cond_true]
    rw [← g2]
  | inr l =>
    rw [hL] at h0
    have hll := typL_len _ _ _ hL
    simp only [List.length_nil, Nat.zero_add] at hll
    rw [hT _ h0, Option.bind_some]
    simp only [nbt rfl, cond_false]
    rw [last_i (by intro hh; rw [hh] at hll; simp at hll; omega) (by omega), inb_nat, dt (by omega), cond_true, Int.toNat_natCast, nth_t (by omega), Option.bind_some]
    have hg : l.getLastD 0 = l[l.length - 1]'(by omega) := by
      rw [List.getLastD_eq_getLast?, List.getLast?_eq_getElem?, List.getElem?_eq_getElem (by omega)]; rfl
    rw [hg])

end Go.Proofs.YtomofgclaiaikaaGreat.R
