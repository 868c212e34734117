/-
  OUR OWN: the document's order of a net; a net in its order, by both.
-/
import Derived.Test.YtanomapnincmoaaSchC
namespace Go.Proofs.Ytanomapnincmoaa.R
open Go Go.Bm Go.Proofs
set_option linter.unusedVariables false
set_option linter.unusedSimpArgs false
set_option maxRecDepth 4000

/-! The document's order. -/
def tkF (n : Nat) (V : List Nat) : List Bool := rowF n fun j => decide (j ∈ V)
theorem tk_set {n i : Nat} (V : List Nat) : setNth (tkF n V) i true = tkF n (V ++ [i]) := by
  rw [tkF, rowF_set]
  refine rowF_congr fun j _ => ?_
  by_cases e : j = i
  · subst e; simp
  · simp [e]
theorem rdy_loop {N : Nat} (V : List Nat) : ∀ (suf pre : List Nat) (b : Bool), (∀ k ∈ suf, k < N) → pre.length + suf.length ≤ 1000 →
    k240 T.rb (tkF N V) (ints pre ++ ints suf) b ((ints pre).length : Nat) = some (tkF N V, ints pre ++ ints suf, b && suf.all fun j => decide (j ∈ V))
  | [], pre, b, hs, hl => ob240 (by
    rw [show ints [] = [] from rfl]
    simp only [b240, lt_end, lt_self, List.append_nil, cond_false, List.all_nil, Bool.and_true])
  | k :: suf, pre, b, hs, hl => ob240 (by
    have hk := hs k List.mem_cons_self
    simp only [List.length_cons] at hl
    have e1 : ints (pre ++ [k]) ++ ints suf = ints pre ++ (k : Int) :: ints suf := by rw [ints_app]; simp [ints]
    have e3 : ints pre ++ [(k : Int)] = ints (pre ++ [k]) := by rw [ints_app]; rfl
    have ih := fun b => rdy_loop V suf (pre ++ [k]) b (fun j hj => hs j (List.mem_cons_of_mem _ hj)) (by simp; omega)
    rw [e1] at ih
    have hpl : (ints pre).length < 4611686018427387904 := by rw [ints_len]; omega
    have htl : (tkF N V).length = N := rowF_len _ _
    have htg : nth (tkF N V) k = some (decide (k ∈ V)) := rowF_get _ hk
    rw [ints_cons]
    simp only [b240, lt_mid, inb_mid, nth_mid, cond_true, Option.bind_some]
    simp only [inb_nat, htl, dt hk, cond_true, Int.toNat_natCast, htg, Option.bind_some, next_mid (ints pre) (k : Int) hpl, e3, ih]
    rw [List.all_cons]
    cases b <;> rfl)
theorem pick_loop {n : Nt} (hN : NetP n) (hl : n.1.length ≤ 1000) (V : List Nat) : ∀ (m : Nat) (nx : Int), m ≤ n.1.length →
    k239 T.rb n (tkF n.1.length V) nx ((m : Int) - 1) = some (n, tkF n.1.length V, match (List.range m).find? (rdy (DN n) n.1.length V) with
      | some i => ((i : Nat) : Int)
      | none => nx)
  | 0, nx, hm => ob239 (by
    simp only [b239]
    rw [df (by omega), cond_false]; rfl)
  | m + 1, nx, hm => ob239 (by
    have hml : m < n.1.length := by omega
    have ih := fun nx => pick_loop hN hl V m nx (by omega)
    have htl : (tkF n.1.length V).length = n.1.length := rowF_len _ _
    have htg : nth (tkF n.1.length V) m = some (decide (m ∈ V)) := rowF_get _ hml
    have hLl := LN_len n m
    have h4 := rdy_loop V (LN n m) [] (!(decide (m ∈ V))) (LN_lt hN hml) (by simp only [List.length_nil]; omega)
    rw [show ints [] = [] from rfl, List.nil_append, List.length_nil, show ((0 : Nat) : Int) = (0 : Int) from rfl, ints_LN hN hml] at h4
    rw [show ((m + 1 : Nat) : Int) - 1 = ((m : Nat) : Int) by omega]
    have hfind : (match (List.range (m + 1)).find? (rdy (DN n) n.1.length V) with
      | some i => ((i : Nat) : Int)
      | none => nx) = (match (List.range m).find? (rdy (DN n) n.1.length V) with
      | some i => ((i : Nat) : Int)
      | none => if rdy (DN n) n.1.length V m = true then ((m : Nat) : Int) else nx) := by
      rw [List.range_succ, List.find?_append]
      cases (List.range m).find? (rdy (DN n) n.1.length V) with
      | some i => rfl
      | none =>
        simp only [Option.none_or, List.find?_cons, List.find?_nil]
        cases rdy (DN n) n.1.length V m <;> rfl
    have hrd : (!(decide (m ∈ V)) && (LN n m).all fun j => decide (j ∈ V)) = rdy (DN n) n.1.length V m := by
      rw [Bool.eq_iff_iff, rdyN_iff hN hml, WL_zero]
      simp
    rw [hfind]
    simp only [b239]
    rw [dt (show ((m : Nat) : Int) ≥ 0 by omega), cond_true]
    simp only [inb_nat, htl, dt hml, cond_true, Int.toNat_natCast, htg, opAtN_nth hml, Option.bind_some, refOps_eq (hN.kids m hml), h4, hrd, wr_pred (show m < 4611686018427387904 by omega)]
    cases rdy (DN n) n.1.length V m
    · exact ih nx
    · exact ih _)
theorem refO_loop {n : Nt} (hN : NetP n) (hl : n.1.length ≤ 1000) : ∀ (f : Nat) (V : List Nat), Val (DN n) n.1.length V → n.1.length ≤ V.length + f →
    ∃ tk, k238 T.rb n (tkF n.1.length V) (ints V) = some (n, tk, ints (greedy (DN n) n.1.length f V)) := by
  intro f V hV hf
  have hvl := val_len hV
  have hp := pick_loop hN hl V n.1.length (-1) (Nat.le_refl _)
  rw [show (List.range n.1.length).find? (rdy (DN n) n.1.length V) = nextO (DN n) n.1.length V from rfl] at hp
  have stop : nextO (DN n) n.1.length V = none → ∃ tk, k238 T.rb n (tkF n.1.length V) (ints V) = some (n, tk, ints V) := fun hno => by
    rw [hno] at hp
    refine ⟨tkF n.1.length V, ob238 ?_⟩
    simp only [b238, wr_pred (show n.1.length < 4611686018427387904 by omega), hp, Option.bind_some]
    rfl
  match f, hf with
  | 0, hf => rw [greedy]; exact stop (next_full hV (by omega))
  | f + 1, hf =>
    rw [greedy]
    cases hnx : nextO (DN n) n.1.length V with
    | none => exact stop hnx
    | some i =>
      have hs := next_spec.1 hnx
      rw [hnx] at hp
      obtain ⟨tk, hz⟩ := refO_loop hN hl f (V ++ [i]) (Val.snoc hV hs.2.1 hs.1) (by simp; omega)
      have htl : (tkF n.1.length V).length = n.1.length := rowF_len _ _
      refine ⟨tk, ob238 ?_⟩
      simp only [b238, wr_pred (show n.1.length < 4611686018427387904 by omega), hp, Option.bind_some]
      simp only [df (show ¬ (((i : Nat) : Int) < 0) by omega), cond_false, inb_nat, htl, dt hs.2.1, cond_true, Int.toNat_natCast, blt_t hs.2.1, ints_len, ble_most (show V.length + 1 ≤ 274877906944 by omega), Bool.and_true, tk_set, show ints V ++ [((i : Nat) : Int)] = ints (V ++ [i]) from by rw [ints_app]; rfl]
      exact hz
theorem ref14O_eq {n : Nt} (hN : NetP n) (hl : n.1.length ≤ 1000) : c83 T.rf n = some (ints (gN n)) := or83 (by
  obtain ⟨tk, h⟩ := refO_loop hN hl n.1.length [] Val.nil (by simp)
  rw [show tkF n.1.length [] = List.replicate n.1.length false from by rw [rowF_rep]; exact rowF_congr fun j _ => by simp, show ints [] = [] from rfl] at h
  have hm1 : inb' ((n.1.length : Nat) : Int) most = true := inb'_t (by omega) (by rw [show most = 274877906944 from rfl]; omega)
  have hm2 : inb' ((n.1.length : Nat) : Int) n.1.length = true := inb'_t (by omega) (by omega)
  simp only [r83, hm1, hm2, cond_true, h, Option.bind_some]
  rfl)
theorem refChk_eq {n : Nt} (h1 : n.1.length ≤ 1000) (h2 : n.2.1.length ≤ 1000) : c78 T.rf n = some (chkN n) := or78 (by
  simp only [r78, refMayN_eq (n := n) (by omega) (by omega), Option.bind_some]
  unfold chkN
  cases hm : mayN n
  · rfl
  · rw [if_pos rfl, Bool.not_true, cond_false, ref14O_eq (may_N hm) h1, Option.bind_some, ints_len, gN]
    by_cases hg : (greedy (DN n) n.1.length n.1.length []).length < n.1.length
    · rw [dt (by omega), if_pos hg]; rfl
    · rw [df (by omega), if_neg hg]; rfl)
/-! In order. -/
def toV (V : List Nat) (k : Int) : Int := if k < 0 then k else ((V.idxOf k.toNat : Nat) : Int)
def turnO (V : List Nat) (x : Od) : Od := (x.1, toV V x.2.1, toV V x.2.2.1, toV V x.2.2.2.1, x.2.2.2.2)
def sortV (n : Nt) (V : List Nat) : Nt := (V.map fun i => turnO V (opAtN n i), n.2.1.map fun k => ((V.idxOf k.toNat : Nat) : Int), n.2.2)
def sortN (n : Nt) : Nt := sortV n (gN n)
/-- A place to which nothing points, or an operator. -/
theorem fld_ok {n : Nt} (h : mayN n = true) {i : Nat} (hi : i < n.1.length) : ∀ k ∈ flds (opAtN n i), k = -1 ∨ (0 ≤ k ∧ k < n.1.length) := fun k hk => by
  rw [← flds_split] at hk
  rw [mayN, Bool.and_eq_true, List.all_eq_true] at h
  have := h.1 _ (opAtN_mem hi)
  rw [mayO, Bool.and_eq_true, Bool.and_eq_true, Bool.and_eq_true, List.all_eq_true, List.all_eq_true] at this
  rcases List.mem_append.1 hk with a | a
  · exact Or.inr (of_decide_eq_true (this.2.1 k a))
  · exact Or.inl (of_decide_eq_true (this.2.2.1 k a))
def toF (N : Nat) (pre : List Nat) : List Int := rowF N fun k => if k ∈ pre then ((pre.idxOf k : Nat) : Int) else 0
theorem to_set {N : Nat} {pre : List Nat} {x : Nat} (hx : x ∉ pre) : setNth (toF N pre) x ((pre.length : Nat) : Int) = toF N (pre ++ [x]) := by
  rw [toF, rowF_set]
  refine rowF_congr fun k _ => ?_
  rw [List.idxOf_append]
  by_cases e : k = x
  · subst e
    rw [if_pos rfl, if_pos (by simp), if_neg hx]; simp
  · rw [if_neg e]
    by_cases h : k ∈ pre
    · rw [if_pos h, if_pos (by simp [h]), if_pos h]
    · rw [if_neg h, if_neg (by simp [h, e])]
theorem to_get {N : Nat} {V : List Nat} {k : Nat} (h : k < N) (hV : k ∈ V) : nth (toF N V) k = some ((V.idxOf k : Nat) : Int) := by
  rw [toF, rowF_get _ h, if_pos hV]
theorem to_loop (N : Nat) : ∀ (suf pre : List Nat), (pre ++ suf).Nodup → (∀ x ∈ suf, x < N) → pre.length + suf.length ≤ 1000 →
    k51 T.rb (toF N pre) (ints pre ++ ints suf) ((ints pre ++ ints suf).length : Nat) ((ints pre).length : Nat) = some (toF N (pre ++ suf), ints pre ++ ints suf)
  | [], pre, hnd, hs, hl => ob51 (by
    rw [show ints [] = [] from rfl, List.append_nil pre]
    simp only [b51, lt_end, lt_self, List.append_nil, cond_false])
  | x :: suf, pre, hnd, hs, hl => ob51 (by
    have hx := hs x List.mem_cons_self
    simp only [List.length_cons] at hl
    have hxp : x ∉ pre := fun hp => by
      rw [List.nodup_append] at hnd
      exact hnd.2.2 x hp x List.mem_cons_self rfl
    have e1 : ints (pre ++ [x]) ++ ints suf = ints pre ++ (x : Int) :: ints suf := by rw [ints_app]; simp [ints]
    have e2 : pre ++ [x] ++ suf = pre ++ x :: suf := by simp
    have e3 : ints pre ++ [(x : Int)] = ints (pre ++ [x]) := by rw [ints_app]; rfl
    have ih := to_loop N suf (pre ++ [x]) (by rw [e2]; exact hnd) (fun j hj => hs j (List.mem_cons_of_mem _ hj)) (by simp; omega)
    rw [e1, e2] at ih
    have hpl : (ints pre).length < 4611686018427387904 := by rw [ints_len]; omega
    have htl : (toF N pre).length = N := rowF_len _ _
    have hset := to_set (N := N) hxp
    rw [← ints_len pre] at hset
    rw [ints_cons]
    simp only [b51, lt_mid, inb_mid, nth_mid, cond_true, Option.bind_some]
    simp only [inb_nat, htl, dt hx, cond_true, Int.toNat_natCast, blt_t hx, hset, next_mid (ints pre) (x : Int) hpl, e3]
    exact ih)
section
variable {n : Nt} {V : List Nat}
theorem to_fld (hV : ∀ j, j < n.1.length → j ∈ V) {k : Int} (h : k = -1 ∨ (0 ≤ k ∧ k < n.1.length)) (h0 : 0 ≤ k) : inb k (toF n.1.length V).length = true ∧ nth (toF n.1.length V) k.toNat = some (toV V k) := by
  have hk : 0 ≤ k ∧ k < n.1.length := by omega
  refine ⟨inb_t h0 (by rw [toF, rowF_len]; exact hk.2), ?_⟩
  rw [to_get (by omega) (hV _ (by omega)), toV, if_neg (by omega)]
theorem to_neg {k : Int} (h : k < 0) : toV V k = k := if_pos h
theorem sort_loop (hm : mayN n = true) (hV : ∀ j, j < n.1.length → j ∈ V) (r0 is_ : List Int) : ∀ (suf pre : List Nat), (∀ x ∈ suf, x < n.1.length) → pre.length + suf.length ≤ 1000 →
    k52 T.rb n (toF n.1.length V) (ints pre ++ ints suf) (pre.map fun i => turnO V (opAtN n i)) r0 is_ ((ints pre ++ ints suf).length : Nat) ((ints pre).length : Nat)
      = some (n, toF n.1.length V, ints pre ++ ints suf, r0, is_, (pre ++ suf).map fun i => turnO V (opAtN n i))
  | [], pre, hs, hl => ob52 (by
    rw [show ints [] = [] from rfl, List.append_nil pre]
    simp only [b52, lt_end, lt_self, List.append_nil, cond_false])
  | x :: suf, pre, hs, hl => ob52 (by
    have hx := hs x List.mem_cons_self
    simp only [List.length_cons] at hl
    have e1 : ints (pre ++ [x]) ++ ints suf = ints pre ++ (x : Int) :: ints suf := by rw [ints_app]; simp [ints]
    have e2 : pre ++ [x] ++ suf = pre ++ x :: suf := by simp
    have e3 : ints pre ++ [(x : Int)] = ints (pre ++ [x]) := by rw [ints_app]; rfl
    have ih := sort_loop hm hV r0 is_ suf (pre ++ [x]) (fun j hj => hs j (List.mem_cons_of_mem _ hj)) (by simp; omega)
    rw [e1, e2, List.map_append, List.map_singleton] at ih
    have hpl : (ints pre).length < 4611686018427387904 := by rw [ints_len]; omega
    have fa := fld_ok hm hx _ (show (opAtN n x).2.1 ∈ flds (opAtN n x) by simp [flds])
    have fb := fld_ok hm hx _ (show (opAtN n x).2.2.1 ∈ flds (opAtN n x) by simp [flds])
    have fc := fld_ok hm hx _ (show (opAtN n x).2.2.2.1 ∈ flds (opAtN n x) by simp [flds])
    have hbl : Nat.ble ((pre.map fun i => turnO V (opAtN n i)).length + 1) most = true := ble_most (by rw [List.length_map]; omega)
    rw [ints_cons]
    simp only [b52, lt_mid, inb_mid, nth_mid, cond_true, Option.bind_some]
    simp only [inb_nat, dt hx, cond_true, Int.toNat_natCast, opAtN_nth hx, Option.bind_some, hbl, Bool.and_true, next_mid (ints pre) (x : Int) hpl, e3]
    simp only [turnO] at ih ⊢
    by_cases ha : (opAtN n x).2.1 ≥ 0
    · have ta := to_fld hV fa ha
      by_cases hb : (opAtN n x).2.2.1 ≥ 0
      · have tb := to_fld hV fb hb
        by_cases hc : (opAtN n x).2.2.2.1 ≥ 0
        · have tc := to_fld hV fc hc
          simp only [dt ha, dt hb, dt hc, cond_true, ta.1, ta.2, tb.1, tb.2, tc.1, tc.2, Option.bind_some]
          exact ih
        · rw [to_neg (show (opAtN n x).2.2.2.1 < 0 by omega)] at ih
          simp only [dt ha, dt hb, df hc, cond_true, cond_false, ta.1, ta.2, tb.1, tb.2, Option.bind_some]
          exact ih
      · rw [to_neg (show (opAtN n x).2.2.1 < 0 by omega)] at ih
        by_cases hc : (opAtN n x).2.2.2.1 ≥ 0
        · have tc := to_fld hV fc hc
          simp only [dt ha, df hb, dt hc, cond_true, cond_false, ta.1, ta.2, tc.1, tc.2, Option.bind_some]
          exact ih
        · rw [to_neg (show (opAtN n x).2.2.2.1 < 0 by omega)] at ih
          simp only [dt ha, df hb, df hc, cond_true, cond_false, ta.1, ta.2, Option.bind_some]
          exact ih
    · rw [to_neg (show (opAtN n x).2.1 < 0 by omega)] at ih
      by_cases hb : (opAtN n x).2.2.1 ≥ 0
      · have tb := to_fld hV fb hb
        by_cases hc : (opAtN n x).2.2.2.1 ≥ 0
        · have tc := to_fld hV fc hc
          simp only [df ha, dt hb, dt hc, cond_true, cond_false, tb.1, tb.2, tc.1, tc.2, Option.bind_some]
          exact ih
        · rw [to_neg (show (opAtN n x).2.2.2.1 < 0 by omega)] at ih
          simp only [df ha, dt hb, df hc, cond_true, cond_false, tb.1, tb.2, Option.bind_some]
          exact ih
      · rw [to_neg (show (opAtN n x).2.2.1 < 0 by omega)] at ih
        by_cases hc : (opAtN n x).2.2.2.1 ≥ 0
        · have tc := to_fld hV fc hc
          simp only [df ha, df hb, dt hc, cond_true, cond_false, tc.1, tc.2, Option.bind_some]
          exact ih
        · rw [to_neg (show (opAtN n x).2.2.2.1 < 0 by omega)] at ih
          simp only [df ha, df hb, df hc, cond_false]
          exact ih)
theorem root_loop (hN : NetP n) (hV : ∀ j, j < n.1.length → j ∈ V) (ops : List Od) (is_ : List Int) : ∀ (suf pre : List Int), (∀ k ∈ suf, 0 ≤ k ∧ k < n.1.length) → pre.length + suf.length ≤ 1000 →
    k53 T.rb (toF n.1.length V) ops (pre.map fun k => ((V.idxOf k.toNat : Nat) : Int)) is_ (pre ++ suf) ((pre ++ suf).length : Nat) (pre.length : Nat)
      = some (toF n.1.length V, ops, is_, (pre ++ suf).map fun k => ((V.idxOf k.toNat : Nat) : Int))
  | [], pre, hs, hl => ob53 (by
    simp only [b53, lt_end, lt_self, List.append_nil, cond_false])
  | k :: suf, pre, hs, hl => ob53 (by
    have hk := hs k List.mem_cons_self
    simp only [List.length_cons] at hl
    have ih := root_loop hN hV ops is_ suf (pre ++ [k]) (fun j hj => hs j (List.mem_cons_of_mem _ hj)) (by simp; omega)
    rw [List.map_append, List.map_singleton] at ih
    simp only [List.append_assoc, List.singleton_append] at ih
    have tk := to_fld hV (Or.inr hk) hk.1
    rw [toV, if_neg (by omega)] at tk
    have hbl : Nat.ble ((pre.map fun k => ((V.idxOf k.toNat : Nat) : Int)).length + 1) most = true := ble_most (by rw [List.length_map]; omega)
    simp only [b53, lt_mid, inb_mid, nth_mid, cond_true, Option.bind_some, tk.1, tk.2, hbl, Bool.and_true, next_mid pre k (by omega)]
    exact ih)
end
theorem Clone_eq {l : List Int} (h : l.length ≤ 1000000) : c37 T.rf l = some l := or37 (by
  simp only [r37, Nat.zero_add, ble_most (show l.length ≤ 274877906944 by omega), Bool.and_true, cond_true, List.nil_append]
  cases l with
  | nil => rw [agree_self]; rfl
  | cons x r => rfl)
theorem gN_all {n : Nt} (h : chkN n = 0) : ∀ j, j < n.1.length → j ∈ gN n := val_all (gN_val n) (chk_may h).2
theorem gN_len {n : Nt} (h : chkN n = 0) : (gN n).length = n.1.length := Nat.le_antisymm (val_len (gN_val n)) (chk_may h).2
theorem SortN_eq {n : Nt} (h1 : n.1.length ≤ 1000) (h2 : n.2.1.length ≤ 1000) (h3 : n.2.2.length ≤ 1000) : c5 T.rf n = some (if chkN n = 0 then (sortN n, 0) else (([], [], []), chkN n)) := or5 (by
  simp only [r5, OrderN_eq h1 h2, Option.bind_some]
  unfold ordN
  by_cases hc : chkN n = 0
  · have hm := (chk_may hc).1
    have hV := gN_all hc
    have hlen := gN_len hc
    have hlt := val_lt (gN_val n)
    have a := to_loop n.1.length (gN n) [] (by rw [List.nil_append]; exact val_nodup (gN_val n)) hlt (by simp; omega)
    have b := sort_loop hm hV [] n.2.2 (gN n) [] hlt (by simp; omega)
    have c := root_loop (may_N hm) hV ((gN n).map fun i => turnO (gN n) (opAtN n i)) n.2.2 n.2.1 [] (may_N hm).root (by simp; omega)
    rw [show ints [] = [] from rfl, List.nil_append, List.nil_append, List.length_nil, show ((0 : Nat) : Int) = (0 : Int) from rfl, show toF n.1.length [] = List.replicate n.1.length (0 : Int) from by rw [rowF_rep]; exact rowF_congr fun k _ => by simp] at a
    rw [show ints [] = [] from rfl, List.nil_append, List.nil_append, List.length_nil, show ((0 : Nat) : Int) = (0 : Int) from rfl, List.map_nil] at b
    rw [List.nil_append, List.length_nil, show ((0 : Nat) : Int) = (0 : Int) from rfl, List.map_nil] at c
    have hm1 : inb' (((ints (gN n)).length : Nat) : Int) most = true := inb'_t (by omega) (by rw [ints_len, show most = 274877906944 from rfl]; omega)
    have hm2 : inb' (((ints (gN n)).length : Nat) : Int) (ints (gN n)).length = true := inb'_t (by omega) (by omega)
    rw [← hlen, ← ints_len (gN n)] at a
    rw [hc, if_pos rfl, if_pos rfl]
    simp only [nbt (show (0 : Int) = 0 from rfl), cond_false, hm1, hm2, cond_true]
    rw [a, Option.bind_some]
    simp only [Clone_eq (l := n.2.2) (by omega), Option.bind_some]
    rw [ints_len, hlen]
    rw [ints_len, hlen] at b
    rw [b, Option.bind_some]
    simp only [c, Option.bind_some]
    rfl
  · rw [if_neg hc, if_neg hc, nbf hc, cond_true])
end Go.Proofs.Ytanomapnincmoaa.R
