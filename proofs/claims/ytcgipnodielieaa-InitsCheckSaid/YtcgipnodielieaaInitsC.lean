/-
  OUR OWN: the law InitsCheck comes to true.
-/
import Derived.Test.YtcgipnodielieaaInitsB
import Derived.Test.YtcgipnodielieaaProgA
import Derived.Test.YtcgipnodielieaaResOk
namespace Go.Proofs.Ytcgipnodielieaa.R
open Go Go.Bm Go.Proofs
set_option linter.unusedVariables false
set_option linter.unusedSimpArgs false
set_option maxRecDepth 4000

def begE (e : List Nd) : Int := if (ofE e).2 = 0 then (if (ofE e).1 > 0 then 11 else 0) else (ofE e).2
/-- The first that is wrong; what is empty is passed. -/
def firstE : List (List Nd) → Int
  | [] => 0
  | e :: r => if e = [] then firstE r else if begE e ≠ 0 then begE e else firstE r
def firstR : List (List Nd) → Int
  | [] => 0
  | e :: r => if begE e ≠ 0 then begE e else firstR r
def zeroE : List Nd := [(0, 0, 0, 0, 0, [])]
def eqsP (l : List (List UInt8 × List Nd)) : List (List Nd) := l.map fun q => if q.2 = [] then zeroE else q.2
def itemP (l : List It) : List (List Nd) := l.flatMap fun x => [x.2.2.2.1, x.2.2.2.2.1] ++ x.2.2.2.2.2
def full (l : List (List Nd)) : List (List Nd) := l.filter fun e => decide (e ≠ [])
def eqsR (l : List (List UInt8 × List Nd)) : List (List Nd) := l.map fun q => q.2

theorem firstE_app : ∀ a b : List (List Nd), firstE (a ++ b) = if firstE a ≠ 0 then firstE a else firstE b
  | [], b => rfl
  | e :: a, b => by
    rw [List.cons_append, firstE, firstE, firstE_app a b]
    by_cases h1 : e = []
    · rw [if_pos h1, if_pos h1]
    · rw [if_neg h1, if_neg h1]
      by_cases h2 : begE e ≠ 0
      · rw [if_pos h2, if_pos h2, if_pos h2]
      · rw [if_neg h2, if_neg h2]
theorem firstR_app : ∀ a b : List (List Nd), firstR (a ++ b) = if firstR a ≠ 0 then firstR a else firstR b
  | [], b => rfl
  | e :: a, b => by
    rw [List.cons_append, firstR, firstR, firstR_app a b]
    by_cases h2 : begE e ≠ 0
    · rw [if_pos h2, if_pos h2, if_pos h2]
    · rw [if_neg h2, if_neg h2]
theorem begE_nil : begE [] = 1 := by decide +kernel
theorem begE_zero : begE zeroE = 1 := by decide +kernel
theorem firstE_eqs : ∀ l, firstE (eqsP l) = firstR (eqsR l)
  | [] => rfl
  | q :: l => by
    have ih := firstE_eqs l
    simp only [eqsP, eqsR] at ih
    simp only [eqsP, eqsR, List.map_cons, firstE, firstR, ih]
    by_cases h : q.2 = []
    · rw [if_pos h, h, if_neg (by decide), begE_nil, begE_zero]
    · rw [if_neg h, if_neg h]
theorem firstE_full : ∀ l, firstE l = firstR (full l)
  | [] => rfl
  | e :: l => by
    have ih := firstE_full l
    simp only [full] at ih
    rw [firstE, full, List.filter_cons, ih]
    by_cases h : e = []
    · rw [if_pos h, if_neg (by simp [h])]
    · rw [if_neg h, if_pos (dt h), firstR]

theorem unit_eqs : ∀ (suf pre : List (List UInt8 × List Nd)) (out : List (List Nd)), out.length + suf.length ≤ 1000000 → pre.length + suf.length ≤ 1000 →
    k91 T.rb out (pre ++ suf) ((pre ++ suf).length : Nat) (pre.length : Nat) = some (out ++ eqsP suf)
  | [], pre, out, h, h2 => ob91 (by simp only [b91, lt_end, lt_self, List.append_nil, cond_false]; simp [eqsP])
  | q :: suf, pre, out, h, h2 => ob91 (by
    simp only [List.length_cons] at h h2
    have ih := fun y => unit_eqs suf (pre ++ [q]) (out ++ [y]) (by simp; omega) (by simp; omega)
    simp only [List.append_assoc, List.singleton_append] at ih
    simp only [b91, lt_mid, inb_mid, nth_mid, cond_true, Option.bind_some, next_mid pre q (by omega), ble_most (show out.length + 1 ≤ 274877906944 by omega), Bool.and_true, ih, eqsP, List.map_cons]
    by_cases hq : q.2 = []
    · rw [hq]; rfl
    · rw [len_ne hq, cond_false, if_neg hq])

theorem itemP_len : ∀ (l : List It), (∀ x ∈ l, SmallI x) → (itemP l).length ≤ 32 * l.length
  | [], _ => by simp [itemP]
  | x :: l, h => by
    have ih := itemP_len l (fun y hy => h y (List.mem_cons_of_mem _ hy))
    have hx := (h x List.mem_cons_self).args
    simp only [itemP, List.flatMap_cons, List.length_append, List.length_cons, List.length_nil] at ih ⊢
    omega

theorem unit_items : ∀ (suf pre : List It) (out : List (List Nd)), (∀ x ∈ suf, SmallI x) → out.length + 32 * suf.length ≤ 1000000 → pre.length + suf.length ≤ 1000 →
    k92 T.rb out (pre ++ suf) ((pre ++ suf).length : Nat) (pre.length : Nat) = some (out ++ itemP suf)
  | [], pre, out, _, h, h2 => ob92 (by simp only [b92, lt_end, lt_self, List.append_nil, cond_false]; simp [itemP])
  | x :: suf, pre, out, hs, h, h2 => ob92 (by
    simp only [List.length_cons] at h h2
    have hx := (hs x List.mem_cons_self).args
    have ih := unit_items suf (pre ++ [x]) ((out ++ [x.2.2.2.1, x.2.2.2.2.1]) ++ x.2.2.2.2.2) (fun y hy => hs y (List.mem_cons_of_mem _ hy)) (by simp; omega) (by simp; omega)
    rw [show (pre ++ [x]) ++ suf = pre ++ x :: suf by simp] at ih
    simp only [b92, lt_mid, inb_mid, nth_mid, cond_true, Option.bind_some, next_mid pre x (by omega), ble_most (show out.length + 2 ≤ 274877906944 by omega), ble_most (show (out ++ [x.2.2.2.1, x.2.2.2.2.1]).length + x.2.2.2.2.2.length ≤ 274877906944 by simp; omega), Bool.and_true, ih]
    simp [itemP])

def outF (l : List (List Nd)) (v : Int) : (List (List Nd) × Int) ⊕ List (List Nd) := if v = 0 then .inr l else .inl (l, v)

theorem unit_all (hs : ∀ e : List Nd, True) : ∀ (suf pre : List (List Nd)), (∀ e ∈ suf, e.length ≤ 1000) → pre.length + suf.length ≤ 1000000 →
    k93 T.rb (pre ++ suf) ((pre ++ suf).length : Nat) (pre.length : Nat) = some (outF (pre ++ suf) (firstE suf))
  | [], pre, h, h2 => ob93 (by simp only [b93, lt_end, lt_self, List.append_nil, cond_false]; rfl)
  | e :: suf, pre, h, h2 => ob93 (by
    simp only [List.length_cons] at h2
    have he := h e List.mem_cons_self
    have ih := unit_all hs suf (pre ++ [e]) (fun x hx => h x (List.mem_cons_of_mem _ hx)) (by simp; omega)
    simp only [List.append_assoc, List.singleton_append] at ih
    simp only [b93, lt_mid, inb_mid, nth_mid, cond_true, Option.bind_some, next_mid pre e (by omega), ih, firstE, Of_eq (show e.length ≤ 1000000 by omega)]
    by_cases hq : e = []
    · rw [if_pos hq, hq]; rfl
    rw [len_ne hq, cond_false, if_neg hq, begE]
    by_cases h3 : (ofE e).2 = 0
    · rw [nbt h3, cond_false, if_pos h3]
      by_cases h4 : (ofE e).1 > 0
      · rw [dt h4, cond_true, if_pos h4]; rfl
      · rw [df h4, cond_false, if_neg h4]; rfl
    · rw [nbf h3, cond_true, if_neg h3, if_pos h3, outF, if_neg h3])

def wrongU (u : Un) : Int := firstE (eqsP u.2.2.2.2.2.2.1 ++ itemP u.2.2.2.2.2.2.2)

theorem itemP_small {l : List It} (h : ∀ x ∈ l, SmallI x) : ∀ e ∈ itemP l, e.length ≤ 200 := by
  intro e he
  obtain ⟨x, hx, h2⟩ := List.mem_flatMap.1 he
  have h3 := h x hx
  rcases List.mem_append.1 h2 with h2 | h2
  · rcases List.mem_cons.1 h2 with rfl | h2
    · exact h3.e
    · rcases List.mem_cons.1 h2 with rfl | h2
      · exact h3.f
      · cases h2
  · exact h3.arg e h2
theorem eqsP_small {l : List (List UInt8 × List Nd)} (h : ∀ q ∈ l, q.2.length ≤ 200) : ∀ e ∈ eqsP l, e.length ≤ 200 := by
  intro e he
  obtain ⟨q, hq, rfl⟩ := List.mem_map.1 he
  split
  · decide
  · exact h q hq

theorem unit_eq {u : Un} (h : SmallU u) : c77 T.rf u = some (wrongU u) := or77 (by
  have l1 := h.eqs
  have l2 := h.items
  have l3 : (eqsP u.2.2.2.2.2.2.1).length = u.2.2.2.2.2.2.1.length := by simp [eqsP]
  have l4 := itemP_len _ h.item
  have h1 := unit_eqs u.2.2.2.2.2.2.1 [] [] (by simp; omega) (by simp; omega)
  have h2 := unit_items u.2.2.2.2.2.2.2 [] (eqsP u.2.2.2.2.2.2.1) h.item (by omega) (by simp; omega)
  have h3 := unit_all (fun _ => trivial) (eqsP u.2.2.2.2.2.2.1 ++ itemP u.2.2.2.2.2.2.2) [] (fun e he => by
    rcases List.mem_append.1 he with he | he
    · have := eqsP_small h.eq e he; omega
    · have := itemP_small h.item e he; omega) (by simp; omega)
  simp only [List.nil_append] at h1 h2 h3
  rw [show (((([] : List (List UInt8 × List Nd)).length : Nat)) : Int) = 0 from rfl] at h1
  rw [show (((([] : List It).length : Nat)) : Int) = 0 from rfl] at h2
  rw [show (((([] : List (List Nd)).length : Nat)) : Int) = 0 from rfl] at h3
  simp only [r77, h1, h2, h3, Option.bind_some, outF]
  show _ = some (firstE _)
  by_cases h4 : firstE (eqsP u.2.2.2.2.2.2.1 ++ itemP u.2.2.2.2.2.2.2) = 0
  · rw [if_pos h4, h4]
  · rw [if_neg h4])

/-- The first unit that is wrong, from a number on. -/
def checkL : List Un → Nat → Int × Int
  | [], _ => (0, 0)
  | u :: r, i => if wrongU u = 0 then checkL r (i + 1) else (wrongU u, (i : Nat))
def pickC (v z : Int × Int) : (Int × Int) ⊕ (Int × Int) := if v.1 = 0 then .inr z else .inl v
theorem pickC_z {v : Int × Int} (z : Int × Int) (h : v.1 = 0) : pickC v z = .inr z := by rw [pickC, if_pos h]
theorem pickC_n {v : Int × Int} (z : Int × Int) (h : v.1 ≠ 0) : pickC v z = .inl v := by rw [pickC, if_neg h]
theorem checkL_z {u : Un} (r : List Un) (i : Nat) (h : wrongU u = 0) : checkL (u :: r) i = checkL r (i + 1) := by rw [checkL, if_pos h]
theorem checkL_n {u : Un} (r : List Un) (i : Nat) (h : wrongU u ≠ 0) : checkL (u :: r) i = (wrongU u, ((i : Nat) : Int)) := by rw [checkL, if_neg h]

theorem checkL_zero : ∀ (l : List Un) (i : Nat), (checkL l i).1 = 0 → checkL l i = (0, 0)
  | [], i, _ => rfl
  | u :: r, i, h => by
    rw [checkL] at h ⊢
    split
    · rename_i hw; rw [if_pos hw] at h; exact checkL_zero r _ h
    · rename_i hw; rw [if_neg hw] at h; exact absurd h hw

theorem Check_loop (z : Int × Int) : ∀ (suf pre : List Un), (∀ u ∈ suf, SmallU u) → pre.length + suf.length ≤ 1000 →
    k85 T.rb z (pre ++ suf) ((pre ++ suf).length : Nat) (pre.length : Nat) = some (pickC (checkL suf pre.length) z)
  | [], pre, hs, h => ob85 (by simp only [b85, lt_end, lt_self, List.append_nil, cond_false]; rfl)
  | u :: suf, pre, hs, h => ob85 (by
    simp only [List.length_cons] at h
    have ih := Check_loop z suf (pre ++ [u]) (fun x hx => hs x (List.mem_cons_of_mem _ hx)) (by simp; omega)
    simp only [List.append_assoc, List.singleton_append] at ih
    simp only [b85, lt_mid, inb_mid, nth_mid, cond_true, Option.bind_some, next_mid pre u (by omega), ih, unit_eq (hs u List.mem_cons_self)]
    rw [show (pre ++ [u]).length = pre.length + 1 by simp]
    by_cases hw : wrongU u = 0
    · rw [nbt hw, cond_false, checkL_z _ _ hw]
    · rw [nbf hw, cond_true, checkL_n _ _ hw, pickC_n _ hw])

theorem Check_eq {p : Pg} (h : SmallP p) : c76 T.rf p = some (checkL p.1 0) := or76 (by
  have l1 := h.units
  have h1 := Check_loop (0, 0) p.1 [] h.unit (by simp; omega)
  simp only [List.nil_append] at h1
  rw [show (((([] : List Un).length : Nat)) : Int) = 0 from rfl] at h1
  rw [show ((([] : List Un).length : Nat)) = 0 from rfl] at h1
  simp only [r76, h1, Option.bind_some]
  by_cases h4 : (checkL p.1 0).1 = 0
  · rw [pickC_z _ h4, checkL_zero _ _ h4]
  · rw [pickC_n _ h4])

theorem begun_ref {e : List Nd} (h : e.length ≤ 1000) : c87 T.rf e = some (begE e) := or87 (by
  simp only [r87, refOf_eq (show e.length ≤ 1000000 by omega), Option.bind_some, begE]
  by_cases h3 : (ofE e).2 = 0
  · rw [bt h3, cond_true, if_pos h3]
    by_cases h4 : (ofE e).1 > 0
    · rw [dt h4, cond_true, if_pos h4]
    · rw [df h4, cond_false, if_neg h4, h3]
  · rw [bf h3, cond_false, if_neg h3])

theorem refC_eqs (u : Un) : ∀ (suf pre : List (List UInt8 × List Nd)) (out : List (List Nd)), u.2.2.2.2.2.2.1 = pre ++ suf → out.length + suf.length ≤ 1000000 → pre.length + suf.length ≤ 1000 →
    k117 T.rb u out (pre.length : Nat) = some (u, out ++ eqsR suf)
  | [], pre, out, hx, h, h2 => ob117 (by simp only [b117, hx, lt_end, lt_self, List.append_nil, cond_false]; simp [eqsR])
  | q :: suf, pre, out, hx, h, h2 => ob117 (by
    simp only [List.length_cons] at h h2
    have ih := refC_eqs u suf (pre ++ [q]) (out ++ [q.2]) (by rw [hx]; simp) (by simp; omega) (by simp; omega)
    simp only [b117, hx, lt_mid, inb_mid, nth_mid, cond_true, Option.bind_some, next_mid pre q (by omega), ble_most (show out.length + 1 ≤ 274877906944 by omega), Bool.and_true, ih]
    simp [eqsR])

theorem full_cons (e : List Nd) (l : List (List Nd)) : full (e :: l) = (if e = [] then [] else [e]) ++ full l := by
  rw [full, List.filter_cons]
  by_cases h : e = []
  · rw [if_neg (by simp [h]), if_pos h]; rfl
  · rw [if_pos (dt h), if_neg h]; rfl
theorem full_app (a b : List (List Nd)) : full (a ++ b) = full a ++ full b := List.filter_append ..
theorem len_pos {e : List Nd} (h : e ≠ []) : decide ((((e.length : Nat) : Int)) > 0) = true := dt (by have := List.length_pos_iff.2 h; omega)

theorem refC_args (x : It) : ∀ (suf pre : List (List Nd)) (out : List (List Nd)), x.2.2.2.2.2 = pre ++ suf → out.length + suf.length ≤ 1000000 → pre.length + suf.length ≤ 1000 →
    k120 T.rb out x (pre.length : Nat) = some (x, out ++ full suf)
  | [], pre, out, hx, h, h2 => ob120 (by simp only [b120, hx, lt_end, lt_self, List.append_nil, cond_false]; simp [full])
  | e :: suf, pre, out, hx, h, h2 => ob120 (by
    simp only [List.length_cons] at h h2
    have ih := fun y hy => refC_args x suf (pre ++ [e]) (out ++ y) (by rw [hx]; simp) hy (by simp; omega)
    simp only [b120, hx, lt_mid, inb_mid, nth_mid, cond_true, Option.bind_some, next_mid pre e (by omega), ble_most (show out.length + 1 ≤ 274877906944 by omega), Bool.and_true, full_cons]
    by_cases he : e = []
    · have := ih [] (by simp; omega)
      rw [List.append_nil] at this
      rw [he] at this ⊢
      rw [if_pos rfl, List.nil_append, this]; rfl
    · rw [len_pos he, cond_true, if_neg he, ih [e] (by simp; omega), List.append_assoc])

theorem refC_tail {x : It} (hs : SmallI x) (out : List (List Nd)) (h : out.length ≤ 100000) : k119 T.rb out x = some (x, out ++ full (x.2.2.2.2.1 :: x.2.2.2.2.2)) := ob119 (by
  have l1 := hs.args
  have ih := fun y hy => refC_args x x.2.2.2.2.2 [] (out ++ y) rfl hy (by simp; omega)
  rw [show (((([] : List (List Nd)).length : Nat)) : Int) = 0 from rfl] at ih
  simp only [b119, ble_most (show out.length + 1 ≤ 274877906944 by omega), Bool.and_true, full_cons]
  by_cases he : x.2.2.2.2.1 = []
  · have := ih [] (by simp; omega)
    rw [List.append_nil] at this
    rw [if_pos he, he, List.nil_append, this]; rfl
  · rw [len_pos he, cond_true, if_neg he, ih [x.2.2.2.2.1] (by simp; omega), List.append_assoc]; rfl)

def itemR (l : List It) : List (List Nd) := l.flatMap fun x => full (x.2.2.2.1 :: (x.2.2.2.2.1 :: x.2.2.2.2.2))
theorem itemR_full : ∀ l, itemR l = full (itemP l)
  | [] => rfl
  | x :: l => by
    have ih := itemR_full l
    simp only [itemR, itemP] at ih
    simp only [itemR, itemP, List.flatMap_cons, ih]
    rw [full_app]; rfl
theorem full_len (l : List (List Nd)) : (full l).length ≤ l.length := List.length_filter_le ..

theorem refC_items (u : Un) : ∀ (suf pre : List It) (out : List (List Nd)), u.2.2.2.2.2.2.2 = pre ++ suf → (∀ x ∈ suf, SmallI x) → out.length + 32 * suf.length ≤ 10000 → pre.length + suf.length ≤ 1000 →
    k118 T.rb u out (pre.length : Nat) = some (u, out ++ itemR suf)
  | [], pre, out, hx, hs, h, h2 => ob118 (by simp only [b118, hx, lt_end, lt_self, List.append_nil, cond_false]; simp [itemR])
  | x :: suf, pre, out, hx, hs, h, h2 => ob118 (by
    simp only [List.length_cons] at h h2
    have hsx := hs x List.mem_cons_self
    have l1 := hsx.args
    have l2 := full_len (x.2.2.2.1 :: (x.2.2.2.2.1 :: x.2.2.2.2.2))
    simp only [List.length_cons] at l2
    have ih := refC_items u suf (pre ++ [x]) (out ++ full (x.2.2.2.1 :: (x.2.2.2.2.1 :: x.2.2.2.2.2))) (by rw [hx]; simp) (fun y hy => hs y (List.mem_cons_of_mem _ hy)) (by simp; omega) (by simp; omega)
    simp only [b118, hx, lt_mid, inb_mid, nth_mid, cond_true, Option.bind_some, next_mid pre x (by omega), ble_most (show out.length + 1 ≤ 274877906944 by omega), Bool.and_true]
    rw [show itemR (x :: suf) = full (x.2.2.2.1 :: (x.2.2.2.2.1 :: x.2.2.2.2.2)) ++ itemR suf from rfl, ← List.append_assoc, ← ih, full_cons x.2.2.2.1]
    by_cases he : x.2.2.2.1 = []
    · rw [if_pos he, he, refC_tail hsx out (by omega)]; rfl
    · rw [len_pos he, cond_true, if_neg he, refC_tail hsx _ (by simp; omega), List.append_assoc]; rfl)

def outR (z : Int × Int) (l : List (List Nd)) (i v : Int) : ((Int × Int) × List (List Nd)) ⊕ ((Int × Int) × List (List Nd)) := if v = 0 then .inr (z, l) else .inl ((v, i), l)

theorem refC_all (z : Int × Int) (i : Int) : ∀ (suf pre : List (List Nd)), (∀ e ∈ suf, e.length ≤ 1000) → pre.length + suf.length ≤ 1000000 →
    k121 T.rb z (pre ++ suf) i (pre.length : Nat) = some (outR z (pre ++ suf) i (firstR suf))
  | [], pre, h, h2 => ob121 (by simp only [b121, lt_end, lt_self, List.append_nil, cond_false]; rfl)
  | e :: suf, pre, h, h2 => ob121 (by
    simp only [List.length_cons] at h2
    have ih := refC_all z i suf (pre ++ [e]) (fun x hx => h x (List.mem_cons_of_mem _ hx)) (by simp; omega)
    simp only [List.append_assoc, List.singleton_append] at ih
    simp only [b121, lt_mid, inb_mid, nth_mid, cond_true, Option.bind_some, next_mid pre e (by omega), ih, firstR, begun_ref (h e List.mem_cons_self)]
    by_cases h3 : begE e = 0
    · rw [nbt h3, cond_false, if_neg (by omega)]
    · rw [nbf h3, cond_true, if_pos h3, outR, if_neg h3])

theorem wrongU_R (u : Un) : wrongU u = firstR (eqsR u.2.2.2.2.2.2.1 ++ itemR u.2.2.2.2.2.2.2) := by
  rw [wrongU, firstE_app, firstR_app, firstE_eqs, firstE_full, itemR_full]

def pickD (p : Pg) (v z : Int × Int) : (Pg × Int × Int) ⊕ (Pg × Int × Int) := if v.1 = 0 then .inr (p, z) else .inl (p, v)
theorem pickD_z (p : Pg) {v : Int × Int} (z : Int × Int) (h : v.1 = 0) : pickD p v z = .inr (p, z) := by rw [pickD, if_pos h]
theorem pickD_n (p : Pg) {v : Int × Int} (z : Int × Int) (h : v.1 ≠ 0) : pickD p v z = .inl (p, v) := by rw [pickD, if_neg h]
theorem outR_z (z : Int × Int) (l : List (List Nd)) (i : Int) {v : Int} (h : v = 0) : outR z l i v = .inr (z, l) := by rw [outR, if_pos h]
theorem outR_n (z : Int × Int) (l : List (List Nd)) (i : Int) {v : Int} (h : v ≠ 0) : outR z l i v = .inl ((v, i), l) := by rw [outR, if_neg h]

theorem refCheck_loop (p : Pg) (z : Int × Int) : ∀ (suf pre : List Un), p.1 = pre ++ suf → (∀ u ∈ suf, SmallU u) → pre.length + suf.length ≤ 1000 →
    k116 T.rb p z (pre.length : Nat) = some (pickD p (checkL suf pre.length) z)
  | [], pre, hx, hs, h => ob116 (by simp only [b116, hx, lt_end, lt_self, List.append_nil, cond_false]; rfl)
  | u :: suf, pre, hx, hs, h => ob116 (by
    simp only [List.length_cons] at h
    have hsu := hs u List.mem_cons_self
    have l1 := hsu.eqs
    have l2 := hsu.items
    have l3 : (eqsR u.2.2.2.2.2.2.1).length = u.2.2.2.2.2.2.1.length := by simp [eqsR]
    have l4 := itemP_len _ hsu.item
    have l5 := full_len (itemP u.2.2.2.2.2.2.2)
    have ih := refCheck_loop p z suf (pre ++ [u]) (by rw [hx]; simp) (fun x hx => hs x (List.mem_cons_of_mem _ hx)) (by simp; omega)
    have h1 := refC_eqs u u.2.2.2.2.2.2.1 [] [] rfl (by simp; omega) (by simp; omega)
    have h2 := refC_items u u.2.2.2.2.2.2.2 [] (eqsR u.2.2.2.2.2.2.1) rfl hsu.item (by omega) (by simp; omega)
    have h3 := refC_all z (pre.length : Nat) (eqsR u.2.2.2.2.2.2.1 ++ itemR u.2.2.2.2.2.2.2) [] (fun e he => by
      rcases List.mem_append.1 he with he | he
      · obtain ⟨q, hq, rfl⟩ := List.mem_map.1 he
        have := hsu.eq q hq; show q.2.length ≤ 1000; omega
      · rw [itemR_full] at he
        have := itemP_small hsu.item e (List.mem_filter.1 he).1; omega) (by rw [itemR_full]; simp; omega)
    simp only [List.nil_append] at h1 h2 h3
    rw [show (((([] : List (List UInt8 × List Nd)).length : Nat)) : Int) = 0 from rfl] at h1
    rw [show (((([] : List It).length : Nat)) : Int) = 0 from rfl] at h2
    rw [show (((([] : List (List Nd)).length : Nat)) : Int) = 0 from rfl] at h3
    simp only [b116, hx, lt_mid, inb_mid, nth_mid, cond_true, Option.bind_some, next_mid pre u (by omega), ih, h1, h2, h3, ← wrongU_R]
    by_cases hw : wrongU u = 0
    · rw [outR_z _ _ _ hw, checkL_z _ _ hw, ← show (pre ++ [u]).length = pre.length + 1 by simp]; exact ih
    · rw [outR_n _ _ _ hw, checkL_n _ _ hw, pickD_n _ _ hw])

theorem refCheck_eq {p : Pg} (h : SmallP p) : c86 T.rf p = some (checkL p.1 0) := or86 (by
  have l1 := h.units
  have h1 := refCheck_loop p (0, 0) p.1 [] rfl h.unit (by simp; omega)
  rw [show (((([] : List Un).length : Nat)) : Int) = 0 from rfl] at h1
  rw [show ((([] : List Un).length : Nat)) = 0 from rfl] at h1
  simp only [r86, h1, Option.bind_some]
  by_cases h4 : (checkL p.1 0).1 = 0
  · rw [pickD_z _ _ h4, checkL_zero _ _ h4]
  · rw [pickD_n _ _ h4])

theorem InitsCheck_eq (p : Pg) : c84 T.rf p = some true := or84 (by
  have live_eq : c1 T.rf = some true := live_run
  simp only [r84, Small_eq, live_eq, Option.bind_some]
  cases hs : smallB p
  · rfl
  have hP := small_P hs
  rw [Bool.not_true, cond_false, Check_eq hP, refCheck_eq hP]
  simp only [Option.bind_some, beq_self_eq_true, Bool.and_true, cond_true])

theorem lawInitsCheck : LawOk T 84 := fun d _ => ⟨true, InitsCheck_eq d, rfl, rfl, rfl⟩

end Go.Proofs.Ytcgipnodielieaa.R
