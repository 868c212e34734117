import Derived.Test.YtanomapnincmoaaCodC
import Derived.Test.YtanomapnincmoaaSchR
/-
  OUR OWN: code that is made of a net: maps by numbers, registers that are given; the program's loops.
-/
namespace Go.Proofs.Ytanomapnincmoaa.R
open Go Go.Bm Go.Proofs
set_option linter.unusedVariables false
set_option linter.unusedSimpArgs false
set_option maxRecDepth 4000

/-! Maps by numbers. -/
abbrev Mp : Type := List (Int × Int)
def hsM (m : Mp) (k : Int) : Bool := assocHas (CT.eqK (.int .i64)) m k
def gtM (m : Mp) (k : Int) : Int := assocGet (CT.eqK (.int .i64)) 0 m k
def stM (m : Mp) (k v : Int) : Mp := assocSet (CT.eqK (.int .i64)) m k v
def dlM (m : Mp) (k : Int) : Mp := assocDel (CT.eqK (.int .i64)) m k
theorem hsM_fold (m : Mp) (k : Int) : @assocHas (CT.int .i64).denote Int (CT.int .i64).eqK m k = hsM m k := rfl
theorem gtM_fold (m : Mp) (k : Int) : @assocGet (CT.int .i64).denote Int (CT.int .i64).eqK 0 m k = gtM m k := rfl
theorem stM_fold (m : Mp) (k v : Int) : @assocSet (CT.int .i64).denote Int (CT.int .i64).eqK m k v = stM m k v := rfl
theorem dlM_fold (m : Mp) (k : Int) : @assocDel (CT.int .i64).denote Int (CT.int .i64).eqK m k = dlM m k := rfl
theorem hsM_fold' (m : Mp) (k : Int) : @assocHas Int Int (CT.int .i64).eqK m k = hsM m k := rfl
theorem gtM_fold' (m : Mp) (k : Int) : @assocGet Int Int (CT.int .i64).eqK 0 m k = gtM m k := rfl
theorem stM_fold' (m : Mp) (k v : Int) : @assocSet Int Int (CT.int .i64).eqK m k v = stM m k v := rfl
theorem dlM_fold' (m : Mp) (k : Int) : @assocDel Int Int (CT.int .i64).eqK m k = dlM m k := rfl
theorem eqK_int (a b : Int) : CT.eqK (.int .i64) a b = decide (a = b) := eqn a b
theorem hs_nil (k : Int) : hsM [] k = false := rfl
theorem hs_cons (p : Int × Int) (r : Mp) (k : Int) : hsM (p :: r) k = (decide (k = p.1) || hsM r k) := by
  unfold hsM assocHas
  rw [assoc, eqK_int]
  cases decide (k = p.1) <;> rfl
theorem gt_cons (p : Int × Int) (r : Mp) (k : Int) : gtM (p :: r) k = if k = p.1 then p.2 else gtM r k := by
  unfold gtM assocGet
  rw [assoc, eqK_int]
  by_cases h : k = p.1
  · rw [dt h, if_pos h]; rfl
  · rw [df h, if_neg h]; rfl
theorem st_cons (p : Int × Int) (r : Mp) (k v : Int) : stM (p :: r) k v = if k = p.1 then (k, v) :: r else p :: stM r k v := by
  unfold stM
  rw [assocSet, eqK_int]
  by_cases h : k = p.1
  · rw [dt h, if_pos h]; rfl
  · rw [df h, if_neg h]; rfl
theorem dl_cons (p : Int × Int) (r : Mp) (k : Int) : dlM (p :: r) k = if k = p.1 then r else p :: dlM r k := by
  unfold dlM
  rw [assocDel, eqK_int]
  by_cases h : k = p.1
  · rw [dt h, if_pos h]; rfl
  · rw [df h, if_neg h]; rfl
theorem gt_st (m : Mp) (x v y : Int) : gtM (stM m x v) y = if y = x then v else gtM m y := get_setI 0 x v y m
theorem hs_st (x v y : Int) : ∀ m : Mp, hsM (stM m x v) y = (decide (y = x) || hsM m y)
  | [] => by rw [show stM [] x v = [(x, v)] from rfl, hs_cons]
  | p :: r => by
    have ih := hs_st x v y r
    rw [st_cons]
    by_cases h : x = p.1
    · rw [if_pos h, hs_cons, hs_cons]
      show (decide (y = x) || hsM r y) = _
      rw [h]
      cases decide (y = p.1) <;> rfl
    · rw [if_neg h, hs_cons, hs_cons, ih]
      cases decide (y = p.1) <;> cases decide (y = x) <;> rfl
theorem st_len (x v : Int) : ∀ m : Mp, hsM m x = false → (stM m x v).length = m.length + 1
  | [], _ => rfl
  | p :: r, h => by
    rw [hs_cons, Bool.or_eq_false_iff] at h
    rw [st_cons, if_neg (of_decide_eq_false h.1), List.length_cons, st_len x v r h.2, List.length_cons]
def keysM (m : Mp) : List Int := m.map Prod.fst
theorem hs_keys (k : Int) : ∀ m : Mp, hsM m k = true ↔ k ∈ keysM m
  | [] => by rw [hs_nil]; exact ⟨fun h => absurd h (by decide), fun h => absurd h (by simp [keysM])⟩
  | p :: r => by
    rw [hs_cons, Bool.or_eq_true, hs_keys k r, decide_eq_true_iff]
    exact List.mem_cons.symm
theorem st_nodup (x v : Int) : ∀ m : Mp, (keysM m).Nodup → (keysM (stM m x v)).Nodup
  | [], _ => by simp [keysM, stM, assocSet]
  | p :: r, h => by
    have hc : (p.1 :: keysM r).Nodup := h
    rw [List.nodup_cons] at hc
    rw [st_cons]
    by_cases e : x = p.1
    · rw [if_pos e, e]; exact h
    · rw [if_neg e]
      show (p.1 :: keysM (stM r x v)).Nodup
      refine List.nodup_cons.2 ⟨fun hm => ?_, st_nodup x v r hc.2⟩
      have := (hs_keys p.1 (stM r x v)).2 hm
      rw [hs_st, Bool.or_eq_true, decide_eq_true_iff] at this
      rcases this with a | a
      · exact e a.symm
      · exact hc.1 ((hs_keys p.1 r).1 a)
theorem dl_mem (x y : Int) : ∀ m : Mp, y ∈ keysM (dlM m x) → y ∈ keysM m
  | [], h => h
  | p :: r, h => by
    rw [dl_cons] at h
    by_cases e : x = p.1
    · rw [if_pos e] at h; exact List.mem_cons_of_mem _ h
    · rw [if_neg e] at h
      rcases List.mem_cons.1 h with a | a
      · exact a ▸ List.mem_cons_self
      · exact List.mem_cons_of_mem _ (dl_mem x y r a)
theorem dl_nodup (x : Int) : ∀ m : Mp, (keysM m).Nodup → (keysM (dlM m x)).Nodup
  | [], h => h
  | p :: r, h => by
    have hc : (p.1 :: keysM r).Nodup := h
    rw [List.nodup_cons] at hc
    rw [dl_cons]
    by_cases e : x = p.1
    · rw [if_pos e]; exact hc.2
    · rw [if_neg e]
      exact List.nodup_cons.2 ⟨fun hm => hc.1 (dl_mem x p.1 r hm), dl_nodup x r hc.2⟩
theorem hs_dl (x y : Int) : ∀ m : Mp, (keysM m).Nodup → hsM (dlM m x) y = (!(decide (y = x)) && hsM m y)
  | [], _ => by rw [show dlM [] x = [] from rfl, hs_nil, Bool.and_false]
  | p :: r, h => by
    have hc : (p.1 :: keysM r).Nodup := h
    rw [List.nodup_cons] at hc
    have ih := hs_dl x y r hc.2
    rw [dl_cons]
    by_cases e : x = p.1
    · rw [if_pos e, hs_cons, e]
      by_cases e2 : y = p.1
      · rw [dt e2, e2]
        cases hp : hsM r p.1
        · rfl
        · exact absurd ((hs_keys _ _).1 hp) hc.1
      · rw [df e2]; rfl
    · rw [if_neg e, hs_cons, hs_cons, ih]
      by_cases e2 : y = p.1
      · rw [dt e2, df (fun a : y = x => e (a.symm.trans e2))]; rfl
      · rw [df e2]; rfl
theorem gt_dl (x y : Int) (h : y ≠ x) : ∀ m : Mp, gtM (dlM m x) y = gtM m y
  | [] => rfl
  | p :: r => by
    have ih := gt_dl x y h r
    rw [dl_cons]
    by_cases e : x = p.1
    · rw [if_pos e, gt_cons, if_neg (fun a => h (a.trans e.symm))]
    · rw [if_neg e, gt_cons, gt_cons, ih]

/-! What is made. -/
def freeK (E : Nat → Int) (i : Nat) (s : Mp × List Int) (k : Int) : Mp × List Int :=
  if hsM s.1 k = true ∧ E k.toNat = i then (dlM s.1 k, s.2 ++ [gtM s.1 k]) else s
def takeM (R : Int) (F : List Int) : Int × List Int × Int := if F.length = 0 then (R + 1, F, R) else (R, F.take (F.length - 1), F.getD (F.length - 1) 0)
def insA (S : Mp) (x : Od) (M : Mp) (D : Int) : Ic :=
  (x.1, D, ((opsN x).map (gtM M)).getD 0 0, ((opsN x).map (gtM M)).getD 1 0, ((opsN x).map (gtM M)).getD 2 0, if x.1 = 21 then gtM S x.2.1 else x.2.2.2.2)
/-- Registers, instructions, where operators are, what is free. -/
abbrev Al : Type := Int × List Ic × Mp × List Int
def frA (N : Nt) (E : Nat → Int) (s : Al) (i : Nat) : Mp × List Int := (opsN (opAtN N i)).foldl (freeK E i) s.2.2
def tkA (N : Nt) (E : Nat → Int) (s : Al) (i : Nat) : Int × List Int × Int := takeM s.1 (frA N E s i).2
def stepA (N : Nt) (E : Nat → Int) (S : Mp) (s : Al) (i : Nat) : Al :=
  ((tkA N E s i).1, s.2.1 ++ [insA S (opAtN N i) s.2.2.1 (tkA N E s i).2.2],
    if E i < 0 then (frA N E s i).1 else stM (frA N E s i).1 i (tkA N E s i).2.2,
    if E i < 0 then (tkA N E s i).2.1 ++ [(tkA N E s i).2.2] else (tkA N E s i).2.1)
def allocA (N : Nt) (E : Nat → Int) (S : Mp) : Nat → Al
  | 0 => (0, [], [], [])
  | i + 1 => stepA N E S (allocA N E S i) i
def presN (N : Nt) : Nat → List Int
  | 0 => []
  | p + 1 => if (opAtN N p).1 = 21 ∧ (opAtN N p).2.1 ∉ presN N p then presN N p ++ [(opAtN N p).2.1] else presN N p
def slotsM (N : Nt) : Nat → Mp
  | 0 => []
  | p + 1 => if (opAtN N p).1 = 21 ∧ hsM (slotsM N p) (opAtN N p).2.1 = false then stM (slotsM N p) (opAtN N p).2.1 ((slotsM N p).length : Nat) else slotsM N p
def rootsM (N : Nt) (told : List Int) : List Int := told.map fun t => N.2.1.getD t.toNat 0
def endT (N : Nt) (told : List Int) (k : Nat) : Int := if (k : Int) ∈ rootsM N told then (N.1.length : Int) else endF N N.1.length k
def endP (N : Nt) (told : List Int) (p : Nat) (k : Nat) : Int := if (k : Int) ∈ presN N p then (N.1.length : Int) else endT N told k
def storesM (S M : Mp) (l : List Nat) : List Ic := (l.filter fun (i : Nat) => hsM S (i : Int)).map fun (i : Nat) => (30, 0, gtM M (i : Int), 0, 0, gtM S (i : Int))
def toldB (m : Nat) (l : List Int) : Bool := l.all fun k => decide (0 ≤ k ∧ k < m)
def alN (N : Nt) (told : List Int) : Al := allocA N (endP N told N.1.length) (slotsM N N.1.length) N.1.length
def codeN (N : Nt) (told : List Int) : Cd :=
  ((alN N told).2.1 ++ storesM (slotsM N N.1.length) (alN N told).2.2.1 (List.range N.1.length), (alN N told).1, ((slotsM N N.1.length).length : Nat), (rootsM N told).map (gtM (alN N told).2.2.1), N.2.2)

/-- What is known of a net in order. -/
structure LineP (N : Nt) : Prop where
  may : mayN N = true
  line : ∀ p, p < N.1.length → ∀ k ∈ opsN (opAtN N p), k < p
theorem LineP.pre {N : Nt} (h : LineP N) {p : Nat} (hp : p < N.1.length) (h21 : (opAtN N p).1 = 21) : 0 ≤ (opAtN N p).2.1 ∧ (opAtN N p).2.1 < N.1.length := by
  obtain ⟨hu, _⟩ := may_at h.may hp
  have hkk : manyN (opAtN N p) = 1 := by unfold manyN kidsN; rw [h21]; rfl
  rw [usedN, hkk] at hu
  simp [flds] at hu
  exact of_decide_eq_true hu
theorem rd_kids {op : Int} (h1 : op ≠ 21) (h2 : op ≠ 30) : rdN op = kidsN op := by
  unfold rdN kidsN
  repeat' split
  all_goals omega
theorem no30 {op : Int} (h : 0 ≤ kidsN op) : op ≠ 30 := fun e => by subst e; exact absurd h (by decide)

/-! The program's loops. -/
section
variable {N : Nt}
theorem keep_eq (N : Nt) {E : Nat → Int} {L : Nat} {k : Int} (h : 0 ≤ k ∧ k < L) : c46 T.rf N (rowF L E) k = some (N, rowF L fun j => if j = k.toNat then (N.1.length : Int) else E j) := or46 (by
  simp only [r46, rowF_len, inb_t h.1 h.2, cond_true, blt_t (show k.toNat < L by omega), rowF_set])
theorem told0_loop {N : Nt} (hr : ∀ k ∈ N.2.1, 0 ≤ k ∧ k < N.1.length) : ∀ (suf pre : List Int) (E : Nat → Int), pre.length + suf.length ≤ 1000 →
    ∃ z, k194 T.rb N 0 0 [] [] [] (rowF N.1.length E) (pre ++ suf) ((pre ++ suf).length : Nat) (pre.length : Nat) = some z ∧ (match z with
      | .inl u => toldB N.2.1.length suf = false ∧ ((u.2.2.2.2.2.2.2.1, u.2.1, u.2.2.1, u.2.2.2.2.2.2.2.2.1, u.2.2.2.1), u.2.2.2.2.2.2.2.2.2) = ((([], 0, 0, [], []), 1) : Cd × Int)
      | .inr w => toldB N.2.1.length suf = true ∧ w = (N, 0, 0, [], [], [], rowF N.1.length fun k => if (k : Int) ∈ rootsM N suf then (N.1.length : Int) else E k))
  | [], pre, E, h => ⟨.inr (N, 0, 0, [], [], [], rowF N.1.length E), ob194 (by simp only [b194, lt_end, lt_self, List.append_nil, cond_false]), rfl, by simp [rootsM]⟩
  | k :: suf, pre, E, h => by
    simp only [List.length_cons] at h
    by_cases h0 : k < 0
    · refine ⟨.inl (N, 0, 0, [], [], [], rowF N.1.length E, [], [], 1), ob194 ?_, ?_, rfl⟩
      · simp only [b194, lt_mid, inb_mid, nth_mid, cond_true, Option.bind_some, dt h0]
      · rw [toldB, List.all_cons, df (by omega)]; rfl
    by_cases h1 : k ≥ ((N.2.1.length : Nat) : Int)
    · refine ⟨.inl (N, 0, 0, [], [], [], rowF N.1.length E, [], [], 1), ob194 ?_, ?_, rfl⟩
      · simp only [b194, lt_mid, inb_mid, nth_mid, cond_true, Option.bind_some, df h0, dt h1, cond_false]
      · rw [toldB, List.all_cons, df (by omega)]; rfl
    have hkl : k.toNat < N.2.1.length := by omega
    have hnt := getD_nth0 hkl
    have hmem : N.2.1.getD k.toNat 0 ∈ N.2.1 := by
      rw [List.getD_eq_getElem?_getD, List.getElem?_eq_getElem hkl]; exact List.getElem_mem hkl
    have hrk := hr _ hmem
    obtain ⟨z, hz, ho⟩ := told0_loop hr suf (pre ++ [k]) (fun j => if j = (N.2.1.getD k.toNat 0).toNat then (N.1.length : Int) else E j) (by simp; omega)
    simp only [List.append_assoc, List.singleton_append] at hz
    refine ⟨z, ob194 ?_, ?_⟩
    · simp only [b194, lt_mid, inb_mid, nth_mid, cond_true, Option.bind_some, df h0, df h1, cond_false, inb_t (show 0 ≤ k by omega) (show k < N.2.1.length by omega), hnt, keep_eq N hrk, next_mid pre k (by omega)]
      exact hz
    · have hb : toldB N.2.1.length (k :: suf) = toldB N.2.1.length suf := by
        show (decide (0 ≤ k ∧ k < N.2.1.length) && _) = _
        rw [dt (by omega), Bool.true_and]; rfl
      cases z with
      | inl u => exact ⟨by rw [hb]; exact ho.1, ho.2⟩
      | inr w =>
        refine ⟨by rw [hb]; exact ho.1, ho.2.trans ?_⟩
        refine congrArg (fun q => (N, (0 : Int), (0 : Int), ([] : List Int), ([] : List Ic), ([] : List Int), q)) (rowF_congr fun j _ => ?_)
        show (if (j : Int) ∈ rootsM N suf then _ else _) = if (j : Int) ∈ N.2.1.getD k.toNat 0 :: rootsM N suf then _ else _
        by_cases e : (j : Int) ∈ rootsM N suf
        · rw [if_pos e, if_pos (List.mem_cons_of_mem _ e)]
        · rw [if_neg e]
          by_cases e2 : j = (N.2.1.getD k.toNat 0).toNat
          · rw [if_pos e2, if_pos (List.mem_cons.2 (Or.inl (by omega)))]
          · rw [if_neg e2, if_neg (fun hm => (List.mem_cons.1 hm).elim (fun a => e2 (by omega)) e)]
theorem slots_has (N : Nt) : ∀ p k, hsM (slotsM N p) k = decide (k ∈ presN N p)
  | 0, k => by simp [slotsM, presN, hs_nil]
  | p + 1, k => by
    have ih := slots_has N p
    rw [slotsM, presN]
    by_cases h : (opAtN N p).1 = 21 ∧ (opAtN N p).2.1 ∉ presN N p
    · rw [if_pos h, if_pos ⟨h.1, by rw [ih]; exact df h.2⟩, hs_st, ih]
      by_cases e : k = (opAtN N p).2.1
      · rw [dt e, e]; simp
      · rw [df e]; simp [e]
    · rw [if_neg h, if_neg (fun g => h ⟨g.1, by have := g.2; rw [ih] at this; exact of_decide_eq_false this⟩), ih]
theorem slots_len (N : Nt) : ∀ p, (slotsM N p).length = (presN N p).length
  | 0 => rfl
  | p + 1 => by
    have ih := slots_len N p
    rw [slotsM, presN]
    by_cases h : (opAtN N p).1 = 21 ∧ (opAtN N p).2.1 ∉ presN N p
    · have hh : hsM (slotsM N p) (opAtN N p).2.1 = false := by rw [slots_has]; exact df h.2
      rw [if_pos h, if_pos ⟨h.1, hh⟩, st_len _ _ _ hh, ih, List.length_append, List.length_singleton]
    · rw [if_neg h, if_neg (fun g => h ⟨g.1, by have := g.2; rw [slots_has] at this; exact of_decide_eq_false this⟩), ih]
theorem pres_len (N : Nt) : ∀ p, (presN N p).length ≤ p
  | 0 => Nat.le_refl _
  | p + 1 => by
    have ih := pres_len N p
    rw [presN]
    split
    · rw [List.length_append, List.length_singleton]; omega
    · omega
theorem pre2_loop (hL : LineP N) (hl : N.1.length ≤ 1000) (told : List Int) : ∀ (m p : Nat), p + m = N.1.length →
    k195 T.rb N (slotsM N p) (rowF N.1.length (endP N told p)) N.1 (N.1.length : Nat) (p : Nat) = some (N, slotsM N N.1.length, rowF N.1.length (endP N told N.1.length))
  | 0, p, h => ob195 (by
    have : p = N.1.length := by omega
    subst this
    simp only [b195, lt_self, cond_false])
  | m + 1, p, h => ob195 (by
    have hp : p < N.1.length := by omega
    have ih := pre2_loop hL hl told m (p + 1) (by omega)
    simp only [b195, dt (show ((p : Nat) : Int) < ((N.1.length : Nat) : Int) by omega), cond_true, inb_nat, dt hp, Int.toNat_natCast, opAtN_nth hp, Option.bind_some, wr_succ (show p < 4611686018427387904 by omega), hsM_fold, hsM_fold', stM_fold, stM_fold', slots_has]
    by_cases h21 : (opAtN N p).1 = 21
    · rw [nbt h21, cond_false]
      have hA := hL.pre hp h21
      by_cases hin : (opAtN N p).2.1 ∈ presN N p
      · have e1 : presN N (p + 1) = presN N p := by rw [presN, if_neg (fun g => g.2 hin)]
        have e2 : slotsM N (p + 1) = slotsM N p := by rw [slotsM, if_neg (fun g => by have := g.2; rw [slots_has, dt hin] at this; exact absurd this (by decide))]
        have e3 : endP N told (p + 1) = endP N told p := by funext k; rw [endP, endP, e1]
        rw [dt hin, Bool.not_true, cond_false, ← e2, ← e3]
        exact ih
      · have e1 : presN N (p + 1) = presN N p ++ [(opAtN N p).2.1] := by rw [presN, if_pos ⟨h21, hin⟩]
        have e2 : slotsM N (p + 1) = stM (slotsM N p) (opAtN N p).2.1 ((slotsM N p).length : Nat) := by rw [slotsM, if_pos ⟨h21, by rw [slots_has]; exact df hin⟩]
        have e3 : (rowF N.1.length fun j => if j = (opAtN N p).2.1.toNat then (N.1.length : Int) else endP N told p j) = rowF N.1.length (endP N told (p + 1)) := rowF_congr fun j _ => by
          show _ = if (j : Int) ∈ presN N (p + 1) then _ else _
          rw [e1]
          by_cases e : j = (opAtN N p).2.1.toNat
          · rw [if_pos e, if_pos (by rw [List.mem_append, List.mem_singleton]; right; omega)]
          · rw [if_neg e, endP]
            by_cases g : (j : Int) ∈ presN N p
            · rw [if_pos g, if_pos (List.mem_append_left _ g)]
            · rw [if_neg g, if_neg (by
                rw [List.mem_append, List.mem_singleton]
                intro q; rcases q with q | q
                · exact g q
                · omega)]
        rw [df hin, Bool.not_false, cond_true, keep_eq N hA, Option.bind_some, e3, ← e2]
        exact ih
    · have e1 : presN N (p + 1) = presN N p := by rw [presN, if_neg (fun g => h21 g.1)]
      have e2 : slotsM N (p + 1) = slotsM N p := by rw [slotsM, if_neg (fun g => h21 g.1)]
      have e3 : endP N told (p + 1) = endP N told p := by funext k; rw [endP, endP, e1]
      rw [nbf h21, cond_true, ← e2, ← e3]
      exact ih)
end

/-! An operator's fields; what is free again. -/
def putF (x : Ic) (j : Nat) (v : Int) : Ic := if j = 2 then (x.1, x.2.1, x.2.2.1, x.2.2.2.1, v, x.2.2.2.2.2) else if j = 1 then (x.1, x.2.1, x.2.2.1, v, x.2.2.2.2) else (x.1, x.2.1, v, x.2.2.2)
def putL (M : Mp) : List Int → Nat → Ic → Ic
  | [], _, x => x
  | k :: r, j, x => putL M r (j + 1) (putF x j (gtM M k))
section
variable (R Sl : Int) (C : List Ic) (O In F : List Int) (M : Mp)
theorem fill6_loop : ∀ (suf pre : List Int) (x : Ic), pre.length + suf.length ≤ 3 →
    k199 T.rb R Sl (pre ++ suf) C O In F M x ((pre ++ suf).length : Nat) (pre.length : Nat) = some (R, Sl, pre ++ suf, C, O, In, F, M, putL M suf pre.length x)
  | [], pre, x, h => ob199 (by simp only [b199, lt_end, lt_self, List.append_nil, cond_false, putL])
  | k :: suf, pre, x, h => ob199 (by
    simp only [List.length_cons] at h
    have ih := fill6_loop suf (pre ++ [k]) (putF x pre.length (gtM M k)) (by simp; omega)
    simp only [List.append_assoc, List.singleton_append] at ih
    simp only [b199, lt_mid, inb_mid, nth_mid, cond_true, Option.bind_some, next_mid pre k (by omega), gtM_fold, gtM_fold']
    simp only [inb_nat, dt (show pre.length < 3 by omega), cond_true, Int.toNat_natCast]
    have hlen : (pre ++ [k]).length = pre.length + 1 := by simp
    rw [putL, ← hlen]
    rcases (show pre.length = 0 ∨ pre.length = 1 ∨ pre.length = 2 by omega) with e | e | e
    · rw [e] at ih ⊢; exact ih
    · rw [e] at ih ⊢; exact ih
    · rw [e] at ih ⊢; exact ih)
theorem putL_fin (l : List Int) (h : l.length ≤ 3) (op n : Int) : putL M l 0 (op, 0, 0, 0, 0, n) = (op, 0, (l.map (gtM M)).getD 0 0, (l.map (gtM M)).getD 1 0, (l.map (gtM M)).getD 2 0, n) := by
  rcases l with _ | ⟨a, _ | ⟨b, _ | ⟨c, _ | ⟨d, r⟩⟩⟩⟩
  · rfl
  · rfl
  · rfl
  · rfl
  · simp at h
theorem free8_loop {L : Nat} (E : Nat → Int) (i : Nat) : ∀ (suf pre : List Int) (s : Mp × List Int), (∀ k ∈ suf, 0 ≤ k ∧ k < L) → pre.length + suf.length ≤ 1000 → s.2.length + suf.length ≤ 10000 →
    k200 T.rb R Sl (pre ++ suf) (rowF L E) C O In s.2 s.1 (i : Nat) ((pre ++ suf).length : Nat) (pre.length : Nat) = some (R, Sl, pre ++ suf, rowF L E, C, O, In, (suf.foldl (freeK E i) s).1, (suf.foldl (freeK E i) s).2)
  | [], pre, s, hs, h, hf => ob200 (by simp only [b200, lt_end, lt_self, List.append_nil, cond_false, List.foldl_nil])
  | k :: suf, pre, s, hs, h, hf => ob200 (by
    have hk := hs k List.mem_cons_self
    simp only [List.length_cons] at h hf
    have ih := free8_loop E i suf (pre ++ [k]) (freeK E i s k) (fun j hj => hs j (List.mem_cons_of_mem _ hj)) (by simp; omega) (by
      unfold freeK; split
      · rw [List.length_append, List.length_singleton]; omega
      · omega)
    simp only [List.append_assoc, List.singleton_append] at ih
    have hg : nth (rowF L E) k.toNat = some (E k.toNat) := rowF_get E (by omega)
    simp only [b200, lt_mid, inb_mid, nth_mid, cond_true, Option.bind_some, next_mid pre k (by omega), hsM_fold, hsM_fold', gtM_fold, gtM_fold', dlM_fold, dlM_fold']
    rw [List.foldl_cons]
    simp only [rowF_len, inb_t hk.1 hk.2, cond_true, hg, Option.bind_some, ble_most (a := s.2.length + 1) (by omega), Bool.and_true]
    by_cases h1 : hsM s.1 k = true
    · rw [h1, cond_true]
      by_cases h2 : E k.toNat = i
      · rw [bt h2, cond_true]
        rw [show freeK E i s k = (dlM s.1 k, s.2 ++ [gtM s.1 k]) from if_pos ⟨h1, h2⟩] at ih ⊢
        exact ih
      · rw [bf h2, cond_false]
        rw [show freeK E i s k = s from if_neg (fun g => h2 g.2)] at ih ⊢
        exact ih
    · rw [Bool.eq_false_iff.2 h1, cond_false]
      rw [show freeK E i s k = s from if_neg (fun g => h1 g.1)] at ih ⊢
      exact ih)
end

end Go.Proofs.Ytanomapnincmoaa.R

/-
  OUR OWN: code that is made of a net: what the program makes.
-/
namespace Go.Proofs.Ytanomapnincmoaa.R
open Go Go.Bm Go.Proofs
set_option linter.unusedVariables false
set_option linter.unusedSimpArgs false
set_option maxRecDepth 4000

theorem free_len (E : Nat → Int) (i : Nat) : ∀ (l : List Int) (s : Mp × List Int), (l.foldl (freeK E i) s).2.length ≤ s.2.length + l.length
  | [], s => Nat.le_refl _
  | k :: l, s => by
    have ih := free_len E i l (freeK E i s k)
    rw [List.foldl_cons, List.length_cons]
    have : (freeK E i s k).2.length ≤ s.2.length + 1 := by
      unfold freeK; split
      · rw [List.length_append, List.length_singleton]; omega
      · omega
    omega
def fl46 : (Int × Int × Ic × List Int × List Int × List Int × Mp × List Ic × List Int) ⊕ (Int × Int × Ic × List Int × List Int × List Int × List Int × Mp × List Ic) → Int × Int × List Int × List Int × List Int × Mp × List Ic × List Int
  | .inl u => (u.1, u.2.1, u.2.2.2.1, u.2.2.2.2.1, u.2.2.2.2.2.1, u.2.2.2.2.2.2.1, u.2.2.2.2.2.2.2.1, u.2.2.2.2.2.2.2.2)
  | .inr w => (w.1, w.2.1, w.2.2.2.1, w.2.2.2.2.1, w.2.2.2.2.2.1, w.2.2.2.2.2.2.2.1, w.2.2.2.2.2.2.2.2, w.2.2.2.2.2.2.1)
def takeS (R Sl : Int) (C : List Ic) (O In F : List Int) (M : Mp) : (Int × Int × List Ic × List Int × List Int × Mp × List Int × Int) ⊕ (Int × Int × List Ic × List Int × List Int × List Int × Mp × Int) :=
  if F.length = 0 then .inr (R + 1, Sl, C, O, In, F, M, R) else .inl (R, Sl, C, O, In, M, F.take (F.length - 1), F.getD (F.length - 1) 0)
theorem take_eq (R Sl : Int) (C : List Ic) (O In F : List Int) (M : Mp) (hR : 0 ≤ R ∧ R ≤ 1000000) (hF : F.length ≤ 1000000) : c47 T.rf R Sl C O In F M = some (takeS R Sl C O In F M) := or47 (by
  have w1 : IntKind.i64.wrap (((F.length : Nat) : Int) - 1) = (F.length : Int) - 1 := wr (by omega)
  have w2 : IntKind.i64.wrap (R + 1) = R + 1 := wr (by omega)
  have w3 : IntKind.i64.wrap (R + 1 - 1) = R := by rw [wr (by omega)]; omega
  simp only [r47, w1, w2, w3]
  unfold takeS
  by_cases h : F.length = 0
  · rw [if_pos h, df (by omega), cond_false]
  · have e : ((F.length : Int) - 1).toNat = F.length - 1 := by omega
    rw [if_neg h, dt (by omega), cond_true, inb_t (by omega) (by omega), cond_true, inb'_t (by omega) (by omega), e, getD_nth0 (by omega), Option.bind_some, cond_true, Nat.sub_zero, sub_zero])
theorem tail46_eq {L : Nat} (R Sl : Int) (x : Ic) (E : Nat → Int) (C : List Ic) (O In F : List Int) (M : Mp) {i : Nat} (hi : i < L) (hR : 0 ≤ R ∧ R ≤ 1000000) (hF : F.length ≤ 1000000) (hC : C.length ≤ 1000000) :
    ∃ z, k197 T.rb R Sl x (rowF L E) C O In F M (i : Nat) = some z ∧ fl46 z = ((takeM R F).1, Sl, rowF L E, O, In, if E i < 0 then M else stM M i (takeM R F).2.2, C ++ [(x.1, (takeM R F).2.2, x.2.2)], if E i < 0 then (takeM R F).2.1 ++ [(takeM R F).2.2] else (takeM R F).2.1) := by
  have hg : nth (rowF L E) i = some (E i) := rowF_get E hi
  have ht := take_eq R Sl C O In F M hR hF
  unfold takeS at ht
  unfold takeM
  by_cases h : F.length = 0
  · simp only [if_pos h] at ht ⊢
    by_cases h0 : E i < 0
    · refine ⟨_, ob197 (by
        simp only [b197, ht, Option.bind_some]
        simp only [inb_nat, rowF_len, dt hi, cond_true, Int.toNat_natCast, hg, Option.bind_some, dt h0, ble_most (a := F.length + 1) (by omega), ble_most (a := C.length + 1) (by omega), Bool.and_true]
        rfl), ?_⟩
      rw [if_pos h0, if_pos h0]; rfl
    · refine ⟨_, ob197 (by
        simp only [b197, ht, Option.bind_some]
        simp only [inb_nat, rowF_len, dt hi, cond_true, Int.toNat_natCast, hg, Option.bind_some, df h0, cond_false, ble_most (a := C.length + 1) (by omega), Bool.and_true]
        rfl), ?_⟩
      rw [if_neg h0, if_neg h0]; rfl
  · have hlt : (F.take (F.length - 1)).length ≤ 1000000 := by rw [List.length_take]; omega
    simp only [if_neg h] at ht ⊢
    by_cases h0 : E i < 0
    · refine ⟨_, ob197 (by
        simp only [b197, ht, Option.bind_some]
        simp only [inb_nat, rowF_len, dt hi, cond_true, Int.toNat_natCast, hg, Option.bind_some, dt h0, ble_most (a := (F.take (F.length - 1)).length + 1) (by omega), ble_most (a := C.length + 1) (by omega), Bool.and_true]
        rfl), ?_⟩
      rw [if_pos h0, if_pos h0]; rfl
    · refine ⟨_, ob197 (by
        simp only [b197, ht, Option.bind_some]
        simp only [inb_nat, rowF_len, dt hi, cond_true, Int.toNat_natCast, hg, Option.bind_some, df h0, cond_false, ble_most (a := C.length + 1) (by omega), Bool.and_true]
        rfl), ?_⟩
      rw [if_neg h0, if_neg h0]; rfl
theorem tail33_eq {L : Nat} (R Sl : Int) (l : List Int) (E : Nat → Int) (C : List Ic) (O In F : List Int) (M : Mp) (op n : Int) {i : Nat} (hl : l.length ≤ 3) (hs : ∀ k ∈ l, 0 ≤ k ∧ k < L) (hF : F.length ≤ 2000) :
    k198 T.rb R Sl l (rowF L E) C O In F M (op, 0, 0, 0, 0, n) (i : Nat) = some (R, Sl, l, rowF L E, C, O, In, (l.foldl (freeK E i) (M, F)).1, (op, 0, (l.map (gtM M)).getD 0 0, (l.map (gtM M)).getD 1 0, (l.map (gtM M)).getD 2 0, n), (l.foldl (freeK E i) (M, F)).2) := ob198 (by
  have h6 := fill6_loop R Sl C O In F M l [] (op, 0, 0, 0, 0, n) (by simpa using hl)
  have h8 := free8_loop R Sl C O In E i l [] (M, F) hs (by simp only [List.length_nil]; omega) (by show F.length + l.length ≤ _; omega)
  rw [List.nil_append, List.length_nil, show ((0 : Nat) : Int) = (0 : Int) from rfl] at h6 h8
  simp only [b198, h6, Option.bind_some, h8, putL_fin M l hl])

section
variable {N : Nt}
theorem alloc_C (E : Nat → Int) (S : Mp) : ∀ p, (allocA N E S p).2.1.length = p
  | 0 => rfl
  | p + 1 => by
    rw [allocA, stepA, List.length_append, alloc_C E S p, List.length_singleton]
theorem take_len (R : Int) (F : List Int) : (takeM R F).2.1.length ≤ F.length := by
  unfold takeM; split
  · exact Nat.le_refl _
  · show (F.take _).length ≤ _
    rw [List.length_take]; omega
theorem take_R (R : Int) (F : List Int) : (takeM R F).1 = R ∨ (takeM R F).1 = R + 1 := by
  unfold takeM; split
  · exact Or.inr rfl
  · exact Or.inl rfl
theorem alloc_F (E : Nat → Int) (S : Mp) : ∀ p, (allocA N E S p).2.2.2.length ≤ 4 * p
  | 0 => Nat.le_refl _
  | p + 1 => by
    have ih := alloc_F E S p
    rw [allocA, stepA]
    have h1 := free_len E p (opsN (opAtN N p)) (allocA N E S p).2.2
    have h2 := take_len (allocA N E S p).1 (frA N E (allocA N E S p) p).2
    have h3 := opsN_len (opAtN N p)
    show (if E p < 0 then (tkA N E (allocA N E S p) p).2.1 ++ [(tkA N E (allocA N E S p) p).2.2] else (tkA N E (allocA N E S p) p).2.1).length ≤ _
    unfold tkA
    unfold frA at h2 ⊢
    split
    · rw [List.length_append, List.length_singleton]; omega
    · omega
theorem alloc_R (E : Nat → Int) (S : Mp) : ∀ p, 0 ≤ (allocA N E S p).1 ∧ (allocA N E S p).1 ≤ p
  | 0 => ⟨Int.le_refl _, Int.le_refl _⟩
  | p + 1 => by
    have ih := alloc_R E S p
    have := take_R (allocA N E S p).1 (frA N E (allocA N E S p) p).2
    rw [allocA, stepA]
    show 0 ≤ (tkA N E (allocA N E S p) p).1 ∧ (tkA N E (allocA N E S p) p).1 ≤ _
    unfold tkA
    omega
theorem alloc4_loop (hL : LineP N) (hl : N.1.length ≤ 300) (E : Nat → Int) (S : Mp) (Sl : Int) (O In : List Int) : ∀ (m p : Nat), p + m = N.1.length →
    k196 T.rb S (allocA N E S p).1 Sl (rowF N.1.length E) (allocA N E S p).2.1 O In (allocA N E S p).2.2.2 (allocA N E S p).2.2.1 N.1 (N.1.length : Nat) (p : Nat)
      = some (S, (allocA N E S N.1.length).1, Sl, rowF N.1.length E, O, In, (allocA N E S N.1.length).2.2.1, (allocA N E S N.1.length).2.1, (allocA N E S N.1.length).2.2.2)
  | 0, p, h => ob196 (by
    have : p = N.1.length := by omega
    subst this
    simp only [b196, lt_self, cond_false])
  | m + 1, p, h => ob196 (by
    have hp : p < N.1.length := by omega
    have ih := alloc4_loop hL hl E S Sl O In m (p + 1) (by omega)
    have hN := may_N hL.may
    have h30 := no30 (hN.kids p hp)
    have hA := alloc_R (N := N) E S p
    have hC := alloc_C (N := N) E S p
    have hF := alloc_F (N := N) E S p
    have h3 := opsN_len (opAtN N p)
    have hfl := free_len E p (opsN (opAtN N p)) (allocA N E S p).2.2
    have hst : allocA N E S (p + 1) = stepA N E S (allocA N E S p) p := rfl
    rw [hst] at ih
    generalize allocA N E S p = s at *
    simp only [b196, dt (show ((p : Nat) : Int) < ((N.1.length : Nat) : Int) by omega), cond_true, inb_nat, dt hp, Int.toNat_natCast, opAtN_nth hp, Option.bind_some, gtM_fold, gtM_fold']
    by_cases h21 : (opAtN N p).1 = 21
    · have ho : opsN (opAtN N p) = [] := if_pos h21
      have hfr : frA N E s p = s.2.2 := by rw [frA, ho]; rfl
      obtain ⟨z, hz, he⟩ := tail46_eq (L := N.1.length) s.1 Sl ((opAtN N p).1, 0, 0, 0, 0, gtM S (opAtN N p).2.1) E s.2.1 O In s.2.2.2 s.2.2.1 hp (by omega) (by omega) (by omega)
      rw [bt h21, cond_true, hz, Option.bind_some]
      rw [stepA, tkA, hfr, insA, ho, if_pos h21] at ih
      cases z with
      | inl u =>
        obtain ⟨u1, u2, u3, u4, u5, u6, u7, u8, u9⟩ := u
        simp only [fl46, Prod.mk.injEq] at he
        obtain ⟨rfl, rfl, rfl, rfl, rfl, rfl, rfl, rfl⟩ := he
        simp only [wr_succ (show p < 4611686018427387904 by omega)]
        exact ih
      | inr u =>
        obtain ⟨u1, u2, u3, u4, u5, u6, u7, u8, u9⟩ := u
        simp only [fl46, Prod.mk.injEq] at he
        obtain ⟨rfl, rfl, rfl, rfl, rfl, rfl, rfl, rfl⟩ := he
        simp only [wr_succ (show p < 4611686018427387904 by omega)]
        exact ih
    · have hk := rd_kids h21 h30
      have hk0 := hN.kids p hp
      have hkle := kidsN_le (opAtN N p).1
      have ho : opsN (opAtN N p) = usedN (opAtN N p) := if_neg h21
      have hmx : (if 0 > kidsN (opAtN N p).1 then 0 else kidsN (opAtN N p).1) = ((manyN (opAtN N p) : Nat) : Int) := by unfold manyN; split <;> omega
      have hm3 := manyN_le (opAtN N p)
      have hsub : sub [(opAtN N p).2.1, (opAtN N p).2.2.1, (opAtN N p).2.2.2.1] (some (0, manyN (opAtN N p))) = opsN (opAtN N p) := by rw [ho]; rfl
      have h33 := tail33_eq (L := N.1.length) s.1 Sl (opsN (opAtN N p)) E s.2.1 O In s.2.2.2 s.2.2.1 (opAtN N p).1 (opAtN N p).2.2.2.2 (i := p) h3 (hN.ops p hp) (by omega)
      obtain ⟨z, hz, he⟩ := tail46_eq (L := N.1.length) s.1 Sl ((opAtN N p).1, 0, ((opsN (opAtN N p)).map (gtM s.2.2.1)).getD 0 0, ((opsN (opAtN N p)).map (gtM s.2.2.1)).getD 1 0, ((opsN (opAtN N p)).map (gtM s.2.2.1)).getD 2 0, (opAtN N p).2.2.2.2) E s.2.1 O In (frA N E s p).2 (frA N E s p).1 hp (by omega) (by unfold frA; omega) (by omega)
      have h33' : k198 T.rb s.1 Sl (opsN (opAtN N p)) (rowF N.1.length E) s.2.1 O In s.2.2.2 s.2.2.1 ((opAtN N p).1, 0, 0, 0, 0, (opAtN N p).2.2.2.2) (p : Nat) = some (s.1, Sl, opsN (opAtN N p), rowF N.1.length E, s.2.1, O, In, (frA N E s p).1, ((opAtN N p).1, 0, ((opsN (opAtN N p)).map (gtM s.2.2.1)).getD 0 0, ((opsN (opAtN N p)).map (gtM s.2.2.1)).getD 1 0, ((opsN (opAtN N p)).map (gtM s.2.2.1)).getD 2 0, (opAtN N p).2.2.2.2), (frA N E s p).2) := h33
      rw [bf h21, cond_false, creads_eq, Option.bind_some, hk, hmx, inb'_nat, dt hm3, cond_true, Int.toNat_natCast, Nat.sub_zero, hsub, h33', Option.bind_some, hz, Option.bind_some]
      rw [stepA, tkA, insA, if_neg h21] at ih
      cases z with
      | inl u =>
        obtain ⟨u1, u2, u3, u4, u5, u6, u7, u8, u9⟩ := u
        simp only [fl46, Prod.mk.injEq] at he
        obtain ⟨rfl, rfl, rfl, rfl, rfl, rfl, rfl, rfl⟩ := he
        simp only [wr_succ (show p < 4611686018427387904 by omega)]
        exact ih
      | inr u =>
        obtain ⟨u1, u2, u3, u4, u5, u6, u7, u8, u9⟩ := u
        simp only [fl46, Prod.mk.injEq] at he
        obtain ⟨rfl, rfl, rfl, rfl, rfl, rfl, rfl, rfl⟩ := he
        simp only [wr_succ (show p < 4611686018427387904 by omega)]
        exact ih)
theorem storesM_cons (S M : Mp) (p : Nat) (l : List Nat) : storesM S M (p :: l) = if hsM S (p : Int) = true then (30, 0, gtM M (p : Int), 0, 0, gtM S (p : Int)) :: storesM S M l else storesM S M l := by
  unfold storesM
  rw [List.filter_cons]
  split <;> rfl
theorem store10_loop (S : Mp) (R Sl : Int) (O In F : List Int) (M : Mp) {L : Nat} : ∀ (m p : Nat) (C : List Ic), p + m = L → C.length + m ≤ 1000000 → L ≤ 1000000 →
    k201 T.rb S R Sl C O In F M (L : Nat) (p : Nat) = some (S, R, Sl, O, In, F, M, C ++ storesM S M (List.range' p m))
  | 0, p, C, h, hC, hl => ob201 (by
    have : p = L := by omega
    subst this
    simp only [b201, lt_self, cond_false, List.range'_zero]
    rw [show storesM S M [] = [] from rfl, List.append_nil])
  | m + 1, p, C, h, hC, hl => ob201 (by
    have ih := fun C' hC' => store10_loop S R Sl O In F M m (p + 1) C' (show p + 1 + m = L by omega) hC' hl
    rw [List.range'_succ, storesM_cons]
    simp only [b201, dt (show ((p : Nat) : Int) < ((L : Nat) : Int) by omega), cond_true, hsM_fold, hsM_fold', gtM_fold, gtM_fold', ble_most (a := C.length + 1) (by omega), Bool.and_true, wr_succ (show p < 4611686018427387904 by omega)]
    by_cases hh : hsM S (p : Int) = true
    · rw [if_pos hh, hh, cond_true, ih _ (by rw [List.length_append, List.length_singleton]; omega), List.append_assoc]; rfl
    · rw [if_neg hh, Bool.eq_false_iff.2 hh, cond_false, ih _ (by omega)])
theorem out12_loop (R Sl : Int) (C : List Ic) (In F : List Int) (M : Mp) : ∀ (suf pre : List Int), (∀ k ∈ suf, 0 ≤ k ∧ k < N.2.1.length) → pre.length + suf.length ≤ 1000 →
    k202 T.rb N R Sl C ((rootsM N pre).map (gtM M)) In F M (pre ++ suf) ((pre ++ suf).length : Nat) (pre.length : Nat) = some (N, R, Sl, C, In, F, M, (rootsM N (pre ++ suf)).map (gtM M))
  | [], pre, hs, h => ob202 (by
    simp only [b202, lt_end, lt_self, List.append_nil, cond_false])
  | k :: suf, pre, hs, h => ob202 (by
    have hk := hs k List.mem_cons_self
    simp only [List.length_cons] at h
    have ih := out12_loop R Sl C In F M suf (pre ++ [k]) (fun j hj => hs j (List.mem_cons_of_mem _ hj)) (by simp; omega)
    have e : (rootsM N (pre ++ [k])).map (gtM M) = (rootsM N pre).map (gtM M) ++ [gtM M (N.2.1.getD k.toNat 0)] := by
      rw [rootsM, List.map_append, List.map_append]; rfl
    rw [e] at ih
    simp only [List.append_assoc, List.singleton_append] at ih
    have hl : ((rootsM N pre).map (gtM M)).length = pre.length := by rw [List.length_map, rootsM, List.length_map]
    simp only [b202, lt_mid, inb_mid, nth_mid, cond_true, Option.bind_some, inb_t hk.1 hk.2, getD_nth0 (show k.toNat < N.2.1.length by omega), hl, ble_most (a := pre.length + 1) (by omega), Bool.and_true, next_mid pre k (by omega), gtM_fold, gtM_fold']
    exact ih)
end
theorem sort_lineP {n : Nt} (hc : chkN n = 0) : LineP (sortN n) := ⟨sort_may hc, by rw [sort_len hc]; exact sort_is hc⟩
theorem told_all {m : Nat} {l : List Int} (h : toldB m l = true) : ∀ k ∈ l, 0 ≤ k ∧ k < m := fun k hk => of_decide_eq_true (List.all_eq_true.1 h k hk)
def makeN (n : Nt) (told : List Int) : Cd × Int := if chkN n = 0 then (if toldB n.2.1.length told = true then (codeN (sortN n) told, 0) else (([], 0, 0, [], []), 1)) else (([], 0, 0, [], []), chkN n)
theorem Make_eq {n : Nt} (h1 : n.1.length ≤ 300) (h2 : n.2.1.length ≤ 60) (h3 : n.2.2.length ≤ 60) {told : List Int} (h4 : told.length ≤ 60) : c4 T.rf n told = some (makeN n told) := or4 (by
  simp only [r4, SortN_eq (n := n) (by omega) (by omega) (by omega), Option.bind_some]
  unfold makeN
  by_cases hc : chkN n = 0
  case neg => rw [if_neg hc, if_neg hc, nbf hc, cond_true]
  rw [if_pos hc, if_pos hc, nbt rfl, cond_false]
  have hL := sort_lineP hc
  have hlen := sort_len hc
  obtain ⟨hr, hi⟩ := sort_small hc
  have hisN := sort_isN hc
  rw [← hr]
  rw [← hlen] at h1
  rw [← hr] at h2
  rw [← hi] at h3
  show (c38 T.rf (sortN n)).bind _ = _
  generalize sortN n = N at *
  have hN := may_N hL.may
  obtain ⟨z, hz, ho⟩ := told0_loop hN.root told [] (endF N N.1.length) (by simp; omega)
  rw [List.nil_append, List.length_nil, show ((0 : Nat) : Int) = (0 : Int) from rfl] at hz
  rw [EndsN_eq (by omega) (by omega), Option.bind_some, endsN, if_pos hisN, hz, Option.bind_some]
  cases z with
  | inl u =>
    obtain ⟨hb, hu⟩ := ho
    rw [hb, if_neg (by decide)]
    exact congrArg some hu
  | inr w =>
    obtain ⟨hb, hw⟩ := ho
    have p2 := pre2_loop hL (by omega) told N.1.length 0 (by omega)
    have e0 : rowF N.1.length (endP N told 0) = rowF N.1.length fun k => if (k : Int) ∈ rootsM N told then (N.1.length : Int) else endF N N.1.length k := rowF_congr fun k _ => by
      rw [endP, if_neg (by simp [presN])]; rfl
    rw [e0, show slotsM N 0 = [] from rfl, show ((0 : Nat) : Int) = (0 : Int) from rfl] at p2
    have a4 := alloc4_loop hL h1 (endP N told N.1.length) (slotsM N N.1.length) ((slotsM N N.1.length).length : Nat) [] N.2.2 N.1.length 0 (by omega)
    rw [show allocA N (endP N told N.1.length) (slotsM N N.1.length) 0 = (0, [], [], []) from rfl, show ((0 : Nat) : Int) = (0 : Int) from rfl] at a4
    have hAC := alloc_C (N := N) (endP N told N.1.length) (slotsM N N.1.length) N.1.length
    have s10 := store10_loop (slotsM N N.1.length) (alN N told).1 ((slotsM N N.1.length).length : Nat) [] N.2.2 (alN N told).2.2.2 (alN N told).2.2.1 N.1.length 0 (alN N told).2.1 (L := N.1.length) (by omega) (by unfold alN; omega) (by omega)
    rw [show ((0 : Nat) : Int) = (0 : Int) from rfl, ← List.range_eq_range'] at s10
    have o12 := out12_loop (N := N) (alN N told).1 ((slotsM N N.1.length).length : Nat) ((alN N told).2.1 ++ storesM (slotsM N N.1.length) (alN N told).2.2.1 (List.range N.1.length)) N.2.2 (alN N told).2.2.2 (alN N told).2.2.1 told [] (told_all hb) (by simp; omega)
    rw [List.nil_append, List.length_nil, show ((0 : Nat) : Int) = (0 : Int) from rfl, show (rootsM N []).map (gtM (alN N told).2.2.1) = [] from rfl] at o12
    subst hw
    rw [hb, if_pos rfl]
    simp only [p2, Option.bind_some, Clone_eq (l := N.2.2) (by omega), a4]
    show (k201 T.rb (slotsM N N.1.length) (alN N told).1 ((slotsM N N.1.length).length : Nat) (alN N told).2.1 [] N.2.2 (alN N told).2.2.2 (alN N told).2.2.1 (N.1.length : Nat) 0).bind _ = _
    simp only [s10, Option.bind_some, o12]
    rfl)

end Go.Proofs.Ytanomapnincmoaa.R

/-
  OUR OWN: what code tells, instant by instant: the document's way.
-/
namespace Go.Proofs.Ytanomapnincmoaa.R
open Go Go.Bm Go.Proofs
set_option linter.unusedVariables false
set_option linter.unusedSimpArgs false
set_option maxRecDepth 4000

theorem args16_loop {N : Nat} (f : Nat → Int) : ∀ (suf pre : List Int) (Z : List Int), (∀ k ∈ suf, 0 ≤ k ∧ k < N) → pre.length + suf.length ≤ 3 → pre.length + Z.length = 3 →
    k214 T.rb (rowF N f) (pre ++ suf) (pre.map (fun k => f k.toNat) ++ Z) (pre.length : Nat) = some (rowF N f, pre ++ suf, (pre ++ suf).map (fun k => f k.toNat) ++ Z.drop suf.length)
  | [], pre, Z, hs, hl, hz => ob214 (by simp only [b214, lt_end, lt_self, List.append_nil, cond_false, List.length_nil, List.drop_zero])
  | k :: suf, pre, Z, hs, hl, hz => ob214 (by
    have hk := hs k List.mem_cons_self
    simp only [List.length_cons] at hl
    obtain ⟨z, Z', rfl⟩ := List.exists_cons_of_ne_nil (show Z ≠ [] from fun e => by rw [e, List.length_nil] at hz; omega)
    rw [List.length_cons] at hz
    have ih := args16_loop f suf (pre ++ [k]) Z' (fun j hj => hs j (List.mem_cons_of_mem _ hj)) (by simp; omega) (by simp; omega)
    simp only [List.append_assoc, List.singleton_append, List.map_append, List.map_cons, List.map_nil] at ih
    have hget : nth (rowF N f) k.toNat = some (f k.toNat) := rowF_get f (by omega)
    have hin : inb k (rowF N f).length = true := inb_t hk.1 (by rw [rowF_len]; exact hk.2)
    have hln : ((pre.map fun k => f k.toNat) ++ z :: Z').length = 3 := by simp; omega
    have hset : setNth ((pre.map fun k => f k.toNat) ++ z :: Z') pre.length (f k.toNat) = (pre.map fun k => f k.toNat) ++ f k.toNat :: Z' := by
      rw [setNth_set, List.set_append_right _ _ (by simp)]; simp
    rw [List.map_append, List.map_cons, List.append_assoc, List.cons_append, List.length_cons, List.drop_succ_cons]
    simp only [b214, lt_mid, inb_mid, nth_mid, cond_true, Option.bind_some]
    simp only [cond_true, Option.bind_some, hin, hget, hln, Int.toNat_natCast, inb_nat, dt (show pre.length < 3 by omega), blt_t (show pre.length < 3 by omega), hset, next_mid pre k (by omega)]
    exact ih)
theorem frame16_loop {c : Cd} (hl : c.2.2.2.2.length ≤ 1000000) : ∀ (suf pre ts tp : List Int), c.2.2.2.2 = tp ++ ts → tp.length = pre.length → ts.length = suf.length →
    ∃ z, k209 T.rb c (pre ++ suf) (pre.length : Nat) = some z ∧ (match z with
      | .inl u => u.2 = false ∧ frL ts suf = false
      | .inr _ => frL ts suf = true)
  | [], pre, ts, tp, he, h1, h2 => ⟨.inr c, ob209 (by simp only [b209, lt_end, lt_self, List.append_nil, cond_false]), by cases ts <;> rfl⟩
  | x :: suf, pre, [], tp, he, h1, h2 => by simp at h2
  | x :: suf, pre, t :: ts, tp, he, h1, h2 => by
    simp only [List.length_cons] at h2
    have hll : c.2.2.2.2.length = tp.length + (ts.length + 1) := by rw [he]; simp
    obtain ⟨z, ih, hz⟩ := frame16_loop hl suf (pre ++ [x]) ts (tp ++ [t]) (by simp [he]) (by simp [h1]) (by omega)
    simp only [List.append_assoc, List.singleton_append] at ih
    have hit : inb ((pre.length : Nat) : Int) c.2.2.2.2.length = true := inb_t (by omega) (by omega)
    have hnt : nth c.2.2.2.2 ((pre.length : Nat) : Int).toNat = some t := by rw [he, ← h1]; exact nth_mid tp t ts
    have go : frB t x = true → (∀ y, k209 T.rb c (pre ++ x :: suf) (((pre ++ [x]).length : Nat) : Int) = some y → b209 T.rf T.rb c (pre ++ x :: suf) (pre.length : Nat) = some y) → ∃ z, k209 T.rb c (pre ++ x :: suf) (pre.length : Nat) = some z ∧ (match z with
      | .inl u => u.2 = false ∧ frL (t :: ts) (x :: suf) = false
      | .inr _ => frL (t :: ts) (x :: suf) = true) := fun hb hs => by
      refine ⟨z, ob209 (hs z ih), ?_⟩
      cases z with
      | inl u => exact ⟨hz.1, by rw [frL, hb, hz.2]; rfl⟩
      | inr u => show frL (t :: ts) (x :: suf) = true; rw [frL, hb]; exact hz
    have no : frB t x = false → b209 T.rf T.rb c (pre ++ x :: suf) (pre.length : Nat) = some (.inl (c, false)) → ∃ z, k209 T.rb c (pre ++ x :: suf) (pre.length : Nat) = some z ∧ (match z with
      | .inl u => u.2 = false ∧ frL (t :: ts) (x :: suf) = false
      | .inr _ => frL (t :: ts) (x :: suf) = true) := fun hb hs => ⟨.inl (c, false), ob209 hs, rfl, by rw [frL, hb]; rfl⟩
    by_cases hf : -2147483648 ≤ x ∧ x ≤ 2147483647
    · by_cases ht : t = 1
      · by_cases h0 : x = 0
        · refine go (by rw [frB, dt hf, df (show ¬ x ≠ 0 from fun h => h h0)]; simp) (fun y hy => ?_)
          simp only [b209, lt_mid, inb_mid, nth_mid, cond_true, Option.bind_some, refFits_eq, dt hf, Bool.not_true, cond_false, hit, hnt, bt ht, nbt h0, next_mid pre x (by omega)]
          exact hy
        · by_cases h1 : x = 1
          · refine go (by rw [frB, dt hf, df (show ¬ x ≠ 1 from fun h => h h1)]; simp) (fun y hy => ?_)
            simp only [b209, lt_mid, inb_mid, nth_mid, cond_true, Option.bind_some, refFits_eq, dt hf, Bool.not_true, cond_false, hit, hnt, bt ht, nbf h0, nbt h1, next_mid pre x (by omega)]
            exact hy
          · refine no (by rw [frB, dt hf, dt ht, dt h0, dt h1]; rfl) ?_
            simp only [b209, lt_mid, inb_mid, nth_mid, cond_true, Option.bind_some, refFits_eq, dt hf, Bool.not_true, cond_false, hit, hnt, bt ht, nbf h0, nbf h1]
      · refine go (by rw [frB, dt hf, df ht]; rfl) (fun y hy => ?_)
        simp only [b209, lt_mid, inb_mid, nth_mid, cond_true, Option.bind_some, refFits_eq, dt hf, Bool.not_true, cond_false, hit, hnt, bf ht, next_mid pre x (by omega)]
        exact hy
    · refine no (by rw [frB, df hf]; rfl) ?_
      simp only [b209, lt_mid, inb_mid, nth_mid, cond_true, Option.bind_some, refFits_eq, df hf, Bool.not_false]
theorem frame16_eq {c : Cd} (hl : c.2.2.2.2.length ≤ 1000000) (l : List Int) : c60 T.rf c l = some (frameB c.2.2.2.2 l) := or60 (by
  simp only [r60]
  unfold frameB
  by_cases h : l.length = c.2.2.2.2.length
  · obtain ⟨z, h0, hz⟩ := frame16_loop hl l [] c.2.2.2.2 [] rfl rfl h.symm
    rw [List.nil_append, List.length_nil, show ((0 : Nat) : Int) = (0 : Int) from rfl] at h0
    rw [nbt (by omega), cond_false, h0, Option.bind_some, dt h, Bool.true_and]
    cases z with
    | inl u => rw [hz.2]; exact congrArg some hz.1
    | inr u => exact congrArg some (Eq.symm hz)
  · rw [nbf (by omega), cond_true, df h]; rfl)


/-! What an instruction makes. -/
def argI (x : Ic) (f : Nat → Int) (j : Nat) : Int := ((rdL x).map fun k => f k.toNat).getD j 0
noncomputable def valI (x : Ic) (f : Nat → Int) (inp sl : List Int) (first : Bool) : Int × Int :=
  if x.1 = 3 then (inp.getD x.2.2.2.2.2.toNat 0, 0) else if x.1 = 1 ∨ x.1 = 2 then (x.2.2.2.2.2, 0) else
  if x.1 = 21 then (sl.getD x.2.2.2.2.2.toNat 0, 0) else
  if x.1 = 19 then (if first = true then f x.2.2.1.toNat else f x.2.2.2.1.toNat, 0) else doN x.1 (argI x f 0) (argI x f 1) (argI x f 2)
theorem rdL_le (x : Ic) : (rdL x).length ≤ 3 := by rw [rdL, List.length_take]; simp; omega
theorem made_eq {c : Cd} {N : Nat} (x : Ic) (f : Nat → Int) {inp sl : List Int} (first : Bool) (h0 : 0 ≤ rdN x.1) (h30 : x.1 ≠ 30) (hn : numI c x = true) (hr : ∀ k ∈ rdL x, 0 ≤ k ∧ k < N) (hin : inp.length = c.2.2.2.2.length) (hsl : (sl.length : Int) = c.2.2.1) :
    c61 T.rf (rowF N f) x inp (sl, first) = some (rowF N f, valI x f inp sl first) := or61 (by
  have hni := of_decide_eq_true hn
  have hl3 := rdL_le x
  simp only [r61]
  unfold valI
  by_cases h3 : x.1 = 3
  · have hb := hni.1 h3
    rw [bt h3, cond_true, if_pos h3, inb_t hb.1 (by omega), cond_true, getD_nth0 (by omega)]
    rfl
  rw [bf h3, cond_false, if_neg h3]
  by_cases h1 : x.1 = 1
  · rw [bt h1, cond_true, cond_true, if_pos (Or.inl h1)]
  rw [bf h1, cond_false]
  by_cases h2 : x.1 = 2
  · rw [bt h2, cond_true, if_pos (Or.inr h2)]
  rw [bf h2, cond_false, if_neg (fun h => h.elim h1 h2)]
  by_cases h21 : x.1 = 21
  · have hb := hni.2.2.2 (Or.inl h21)
    rw [bt h21, cond_true, if_pos h21, inb_t hb.1 (by omega), cond_true, getD_nth0 (by omega)]; rfl
  rw [bf h21, cond_false, if_neg h21]
  by_cases h19 : x.1 = 19
  · have hrd : rdL x = [x.2.2.1, x.2.2.2.1] := by rw [rdL, h19]; rfl
    have a := hr x.2.2.1 (by rw [hrd]; simp)
    have b := hr x.2.2.2.1 (by rw [hrd]; simp)
    have ga : nth (rowF N f) x.2.2.1.toNat = some (f x.2.2.1.toNat) := rowF_get f (by omega)
    have gb : nth (rowF N f) x.2.2.2.1.toNat = some (f x.2.2.2.1.toNat) := rowF_get f (by omega)
    rw [bt h19, cond_true, if_pos h19]
    cases first
    · rw [cond_false, if_neg (by decide), inb_t b.1 (by rw [rowF_len]; exact b.2), cond_true, gb]; rfl
    · rw [cond_true, if_pos rfl, inb_t a.1 (by rw [rowF_len]; exact a.2), cond_true, ga]; rfl
  rw [bf h19, cond_false, if_neg h19]
  have hargs := args16_loop f (rdL x) [] [0, 0, 0] hr (by simpa using hl3) (by simp)
  rw [List.nil_append, List.length_nil, List.map_nil, List.nil_append, show ((0 : Nat) : Int) = (0 : Int) from rfl] at hargs
  have hln : ((rdL x).map (fun k => f k.toNat) ++ ([0, 0, 0] : List Int).drop (rdL x).length).length = 3 := by simp; omega
  have hg : ∀ j, j < 3 → nth ((rdL x).map (fun k => f k.toNat) ++ ([0, 0, 0] : List Int).drop (rdL x).length) j = some (argI x f j) := fun j hj => by
    rw [nth_getElem?]
    unfold argI
    by_cases h : j < (rdL x).length
    · rw [List.getElem?_append_left (by simpa using h), List.getD_eq_getElem?_getD, List.getElem?_eq_getElem (by simpa using h)]; rfl
    · have e1 : ((rdL x).map fun k => f k.toNat)[j]? = none := List.getElem?_eq_none (by simpa using h)
      rw [List.getElem?_append_right (by simpa using h), List.getD_eq_getElem?_getD, e1, List.getElem?_drop, List.length_map]
      rw [show (rdL x).length + (j - (rdL x).length) = j by omega]
      rcases (show j = 0 ∨ j = 1 ∨ j = 2 by omega) with e | e | e <;> subst e <;> rfl
  have ht : k213 T.rb (rowF N f) x = some (rowF N f, x, doN x.1 (argI x f 0) (argI x f 1) (argI x f 2)) := ob213 (by
    simp only [b213, refReads_eq, if_pos h0, Option.bind_some, hargs, hln, inb_t (x := 0) (n := 3) (by decide) (by decide), inb_t (x := 1) (n := 3) (by decide) (by decide), inb_t (x := 2) (n := 3) (by decide) (by decide), cond_true, hg 0 (by decide), hg 1 (by decide), hg 2 (by decide), doN_eq])
  rw [ht, Option.bind_some])

/-! An instant. -/
noncomputable def lessI (e l : Int) : Int := if e ≠ 0 ∧ (l = 0 ∨ e < l) then e else l
noncomputable def stepI (sl inp : List Int) (first : Bool) (s : (Nat → Int) × List Int × Int) (x : Ic) : (Nat → Int) × List Int × Int :=
  if x.1 = 30 then (s.1, setNth s.2.1 x.2.2.2.2.2.toNat (s.1 x.2.2.1.toNat), s.2.2)
  else (fun k => if k = x.2.1.toNat then (valI x s.1 inp sl first).1 else s.1 k, s.2.1, lessI (valI x s.1 inp sl first).2 s.2.2)
theorem stepC_some {c : Cd} {x : Ic} {s s' : List Int × List Int} (h : stepC c x s = some s') : 0 ≤ rdN x.1 ∧ numI c x = true ∧ (∀ k ∈ rdL x, k ∈ s.1) ∧ ((x.1 = 30 ∧ s'.1 = s.1) ∨ (x.1 ≠ 30 ∧ 0 ≤ x.2.1 ∧ x.2.1 < c.2.1 ∧ s'.1 = x.2.1 :: s.1)) := by
  rw [stepC] at h
  by_cases hk : okI c x = true ∧ (rdL x).all (fun k => decide (k ∈ s.1)) = true
  · rw [if_pos hk] at h
    have hok := hk.1
    rw [okI, Bool.and_eq_true, Bool.and_eq_true] at hok
    refine ⟨of_decide_eq_true hok.1, hok.2.2, fun k hk2 => of_decide_eq_true (List.all_eq_true.1 hk.2 k hk2), ?_⟩
    by_cases h30 : x.1 = 30
    · rw [if_pos h30] at h
      refine Or.inl ⟨h30, ?_⟩
      split at h
      · exact absurd h (by simp)
      · cases h; rfl
    · rw [if_neg h30] at h
      refine Or.inr ⟨h30, ?_⟩
      split at h
      · exact absurd h (by simp)
      · rename_i hb
        cases h
        exact ⟨by omega, by omega, rfl⟩
  · rw [if_neg hk] at h; exact absurd h (by simp)
theorem step16_loop {c : Cd} {inp sl : List Int} (first : Bool) (hl : c.1.length ≤ 1000000) (hin : inp.length = c.2.2.2.2.length) (hsl : (sl.length : Int) = c.2.2.1) : ∀ (suf pre : List Ic) (w w' : List Int × List Int) (s : (Nat → Int) × List Int × Int), c.1 = pre ++ suf → runC c suf w = some w' → (∀ k ∈ w.1, 0 ≤ k ∧ k < c.2.1) → (s.2.1.length : Int) = c.2.2.1 →
    k219 T.rb c (sl, first) (rowF c.2.1.toNat s.1) false s.2.1 inp s.2.2 (pre.length : Nat)
      = some (c, (sl, first), rowF c.2.1.toNat (suf.foldl (stepI sl inp first) s).1, false, (suf.foldl (stepI sl inp first) s).2.1, (suf.foldl (stepI sl inp first) s).2.2) ∧ ((suf.foldl (stepI sl inp first) s).2.1.length : Int) = c.2.2.1 ∧ ∀ k ∈ w'.1, 0 ≤ k ∧ k < c.2.1
  | [], pre, w, w', s, he, hw, hR, hs => ⟨ob219 (by
    rw [List.append_nil] at he
    simp only [b219, he, lt_self, cond_false, List.foldl_nil]), hs, by cases hw; exact hR⟩
  | x :: suf, pre, w, w', s, he, hw, hR, hs => by
    have hll : c.1.length = pre.length + (suf.length + 1) := by rw [he]; simp
    rw [runC] at hw
    cases hst : stepC c x w with
    | none => rw [hst] at hw; exact absurd hw (by simp)
    | some w1 =>
    rw [hst] at hw
    obtain ⟨hrd, hnu, hre, hcase⟩ := stepC_some hst
    have hni := of_decide_eq_true hnu
    have hlt : decide (((pre.length : Nat) : Int) < ((c.1.length : Nat) : Int)) = true := dt (by omega)
    have hix : inb ((pre.length : Nat) : Int) c.1.length = true := inb_t (by omega) (by omega)
    have hnt : nth c.1 ((pre.length : Nat) : Int).toNat = some x := by rw [he]; exact nth_mid pre x suf
    have hRr : ∀ k ∈ rdL x, 0 ≤ k ∧ k < ((c.2.1.toNat : Nat) : Int) := fun k hk => by
      have := hR k (hre k hk)
      omega
    rw [List.foldl_cons]
    rcases hcase with ⟨h30, hw1⟩ | ⟨h30, hd0, hd1, hw1⟩
    · have hA : 0 ≤ x.2.2.1 ∧ x.2.2.1 < ((c.2.1.toNat : Nat) : Int) := hRr _ (by rw [rdL, h30]; simp [rdN])
      have hN := hni.2.2.2 (Or.inr h30)
      have hg : nth (rowF c.2.1.toNat s.1) x.2.2.1.toNat = some (s.1 x.2.2.1.toNat) := rowF_get _ (by omega)
      have hsx : stepI sl inp first s x = (s.1, setNth s.2.1 x.2.2.2.2.2.toNat (s.1 x.2.2.1.toNat), s.2.2) := if_pos h30
      obtain ⟨i1, i2, i3⟩ := step16_loop first hl hin hsl suf (pre ++ [x]) w1 w' (stepI sl inp first s x) (by simp [he]) hw (by rw [hw1]; exact hR) (by rw [hsx, setNth_set, List.length_set]; exact hs)
      refine ⟨ob219 ?_, i2, i3⟩
      rw [hsx] at i1 ⊢
      simp only [b219, hlt, hix, hnt, cond_true, Option.bind_some, bt h30, rowF_len, inb_t hA.1 hA.2, hg, inb_t (x := x.2.2.2.2.2) (n := s.2.1.length) hN.1 (by omega), blt_t (a := x.2.2.2.2.2.toNat) (b := s.2.1.length) (by omega), next_mid pre x (by omega)]
      exact i1
    · have hv := made_eq (c := c) (N := c.2.1.toNat) x s.1 (inp := inp) (sl := sl) first hrd h30 hnu hRr hin hsl
      have hsx : stepI sl inp first s x = (fun k => if k = x.2.1.toNat then (valI x s.1 inp sl first).1 else s.1 k, s.2.1, lessI (valI x s.1 inp sl first).2 s.2.2) := if_neg h30
      obtain ⟨i1, i2, i3⟩ := step16_loop first hl hin hsl suf (pre ++ [x]) w1 w' (stepI sl inp first s x) (by simp [he]) hw (by
        rw [hw1]; intro k hk
        rcases List.mem_cons.1 hk with a | a
        · subst a; exact ⟨hd0, hd1⟩
        · exact hR k a) (by rw [hsx]; exact hs)
      refine ⟨ob219 ?_, i2, i3⟩
      rw [hsx] at i1 ⊢
      have hset : setNth (rowF c.2.1.toNat s.1) x.2.1.toNat (valI x s.1 inp sl first).1 = rowF c.2.1.toNat fun k => if k = x.2.1.toNat then (valI x s.1 inp sl first).1 else s.1 k := rowF_set _ _
      simp only [b219, hlt, hix, hnt, cond_true, Option.bind_some, bf h30, cond_false, hv, rowF_len, inb_t (x := x.2.1) (n := c.2.1.toNat) hd0 (by omega), blt_t (a := x.2.1.toNat) (b := c.2.1.toNat) (by omega), hset, next_mid pre x (by omega)]
      unfold lessI at i1 ⊢
      by_cases h1 : (valI x s.1 inp sl first).2 = 0
      · rw [if_neg (fun h => h.1 h1)] at i1 ⊢
        rw [nbt h1, cond_false]; exact i1
      · rw [nbf h1, cond_true]
        by_cases h2 : s.2.2 = 0
        · rw [if_pos ⟨h1, Or.inl h2⟩] at i1 ⊢
          rw [bt h2, cond_true]; exact i1
        · rw [bf h2, cond_false]
          by_cases h3 : (valI x s.1 inp sl first).2 < s.2.2
          · rw [if_pos ⟨h1, Or.inr h3⟩] at i1 ⊢
            rw [dt h3, cond_true]; exact i1
          · rw [if_neg (fun h => h.2.elim h2 h3)] at i1 ⊢
            rw [df h3, cond_false]; exact i1
theorem tell16_loop {c : Cd} (f : Nat → Int) (hr : ∀ k ∈ c.2.2.2.1, 0 ≤ k ∧ k < c.2.1) : ∀ (suf pre : List Int), c.2.2.2.1 = pre ++ suf → pre.length + suf.length ≤ 1000000 →
    k220 T.rb c (rowF c.2.1.toNat f) (pre.map fun k => f k.toNat) (pre.length : Nat) = some (c, rowF c.2.1.toNat f, c.2.2.2.1.map fun k => f k.toNat)
  | [], pre, he, hl => ob220 (by
    rw [List.append_nil] at he
    simp only [b220, he, lt_self, cond_false])
  | k :: suf, pre, he, hl => ob220 (by
    have hk := hr k (by rw [he]; simp)
    simp only [List.length_cons] at hl
    have hll : c.2.2.2.1.length = pre.length + (suf.length + 1) := by rw [he]; simp
    have ih := tell16_loop f hr suf (pre ++ [k]) (by simp [he]) (by simp; omega)
    rw [List.map_append, List.map_singleton] at ih
    have hbl : Nat.ble ((pre.map fun k => f k.toNat).length + 1) most = true := ble_most (by rw [List.length_map]; omega)
    have hlt : decide (((pre.length : Nat) : Int) < ((c.2.2.2.1.length : Nat) : Int)) = true := dt (by omega)
    have hin : inb ((pre.length : Nat) : Int) c.2.2.2.1.length = true := inb_t (by omega) (by omega)
    have hnt : nth c.2.2.2.1 ((pre.length : Nat) : Int).toNat = some k := by rw [he]; exact nth_mid pre k suf
    have hgv : nth (rowF c.2.1.toNat f) k.toNat = some (f k.toNat) := rowF_get f (by omega)
    have hgi : inb k (rowF c.2.1.toNat f).length = true := inb_t hk.1 (by rw [rowF_len]; omega)
    simp only [b220, hlt, hin, hnt, cond_true, Option.bind_some, hgv, hgi, hbl, Bool.and_true, next_mid pre k (by omega)]
    exact ih)

/-! Code that may be. -/
structure CodeP (c : Cd) : Prop where
  regs : 0 ≤ c.2.1 ∧ c.2.1 ≤ 100000
  slots : 0 ≤ c.2.2.1 ∧ c.2.2.1 ≤ 100000
  len : c.1.length ≤ 200000
  run : ∃ w, runC c c.1 ([], []) = some w ∧ ∀ k ∈ c.2.2.2.1, k ∈ w.1
theorem code_P {c : Cd} (h : chkC c = 0) : CodeP c := by
  obtain ⟨hb, w, hr, ha⟩ := chkC_zero.1 h
  have hB := of_decide_eq_false hb
  exact ⟨by omega, by omega, by omega, w, hr, fun k hk => of_decide_eq_true (List.all_eq_true.1 ha k hk)⟩
noncomputable def instI (c : Cd) (sl inp : List Int) (first : Bool) : (Nat → Int) × List Int × Int := c.1.foldl (stepI sl inp first) (fun _ => 0, sl, 0)
theorem Step16_eq {c : Cd} (hc : CodeP c) (ho : c.2.2.2.1.length ≤ 1000000) (hi : c.2.2.2.2.length ≤ 1000000) {sl : List Int} (inp : List Int) (first : Bool) (hsl : (sl.length : Int) = c.2.2.1) :
    c59 T.rf c (sl, first) inp = some (if frameB c.2.2.2.2 inp = true then (if (instI c sl inp first).2.2 = 0 then (c.2.2.2.1.map fun k => (instI c sl inp first).1 k.toNat, ((instI c sl inp first).2.1, false), 0) else ([], (sl, first), (instI c sl inp first).2.2)) else ([], (sl, first), 17)) ∧ ((instI c sl inp first).2.1.length : Int) = c.2.2.1 ∨ ¬ frameB c.2.2.2.2 inp = true ∧ c59 T.rf c (sl, first) inp = some ([], (sl, first), 17) := by
  cases hf : frameB c.2.2.2.2 inp
  · refine Or.inr ⟨by decide, or59 ?_⟩
    simp only [r59, frame16_eq hi, hf, Option.bind_some, Bool.not_false, cond_true]
  · have hil : inp.length = c.2.2.2.2.length := by
      rw [frameB, Bool.and_eq_true] at hf
      exact of_decide_eq_true hf.1
    obtain ⟨w, hw, hout⟩ := hc.run
    have hR := hc.regs
    have hS := hc.slots
    have hCl := hc.len
    obtain ⟨h1, h2, h3⟩ := step16_loop (c := c) (inp := inp) (sl := sl) first (by omega) hil hsl c.1 [] ([], []) w (fun _ => 0, sl, 0) rfl hw (fun k hk => by simp at hk) hsl
    have e0 : List.replicate c.2.1.toNat (0 : Int) = rowF c.2.1.toNat fun _ => 0 := rowF_rep _ _
    rw [List.length_nil, show ((0 : Nat) : Int) = (0 : Int) from rfl] at h1
    have ht := tell16_loop (c := c) (instI c sl inp first).1 (fun k hk => h3 k (hout k hk)) c.2.2.2.1 [] rfl (by simpa using ho)
    rw [List.map_nil, List.length_nil, show ((0 : Nat) : Int) = (0 : Int) from rfl] at ht
    refine Or.inl ⟨or59 ?_, h2⟩
    rw [if_pos rfl]
    have hm1 : inb' c.2.1 most = true := inb'_t (by omega) (by rw [show most = 274877906944 from rfl]; omega)
    have hm2 : inb' c.2.1 c.2.1.toNat = true := inb'_t (by omega) (by omega)
    simp only [r59, frame16_eq hi, hf, Option.bind_some, Bool.not_true, cond_false, hm1, hm2, cond_true, ble_most (a := sl.length) (by omega), e0, h1]
    show (bif (instI c sl inp first).2.2 != 0 then some ([], (sl, first), (instI c sl inp first).2.2) else (k220 T.rb c (rowF c.2.1.toNat (instI c sl inp first).1) [] 0).bind fun z3 => some (z3.2.2, ((instI c sl inp first).2.1, false), 0)) = _
    by_cases h0 : (instI c sl inp first).2.2 = 0
    · rw [nbt h0, cond_false, if_pos h0, ht, Option.bind_some]
    · rw [nbf h0, cond_true, if_neg h0]

/-! The instants. -/
noncomputable def runI (c : Cd) : List (List Int) → List (List Int) → List Int → Bool → List (List Int) × Int
  | [], out, _, _ => (out, 0)
  | inp :: r, out, sl, first => if frameB c.2.2.2.2 inp = true then
      (if (instI c sl inp first).2.2 = 0 then runI c r (out ++ [c.2.2.2.1.map fun k => (instI c sl inp first).1 k.toNat]) (instI c sl inp first).2.1 false else (out, (instI c sl inp first).2.2))
    else (out, 17)
def out16 : (Cd × (List Int × Bool) × List (List Int) × Int) ⊕ (Cd × (List Int × Bool) × List (List Int)) → List (List Int) × Int
  | .inl u => u.2.2
  | .inr w => (w.2.2, 0)
theorem run16_loop {c : Cd} (hc : CodeP c) (ho : c.2.2.2.1.length ≤ 1000000) (hi : c.2.2.2.2.length ≤ 1000000) : ∀ (suf pre : List (List Int)) (out : List (List Int)) (sl : List Int) (first : Bool), pre.length + suf.length ≤ 1000 → out.length + suf.length ≤ 1000 → (sl.length : Int) = c.2.2.1 →
    ∃ z, k222 T.rb c (sl, first) out (pre ++ suf) (pre.length : Nat) = some z ∧ out16 z = runI c suf out sl first
  | [], pre, out, sl, first, hl, hou, hsl => ⟨.inr (c, (sl, first), out), ob222 (by simp only [b222, lt_end, lt_self, List.append_nil, cond_false]), rfl⟩
  | inp :: suf, pre, out, sl, first, hl, hou, hsl => by
    simp only [List.length_cons] at hl hou
    rw [runI]
    rcases Step16_eq hc ho hi inp first hsl with ⟨hS, hS2⟩ | ⟨hf, hS⟩
    · by_cases hf : frameB c.2.2.2.2 inp = true
      · rw [if_pos hf] at hS ⊢
        by_cases he : (instI c sl inp first).2.2 = 0
        · rw [if_pos he] at hS ⊢
          obtain ⟨z, hz, hz2⟩ := run16_loop hc ho hi suf (pre ++ [inp]) (out ++ [c.2.2.2.1.map fun k => (instI c sl inp first).1 k.toNat]) (instI c sl inp first).2.1 false (by simp; omega) (by simp; omega) hS2
          simp only [List.append_assoc, List.singleton_append] at hz
          have ht : k223 T.rb (sl, first) out (c.2.2.2.1.map fun k => (instI c sl inp first).1 k.toNat) ((instI c sl inp first).2.1, false) 0 = some (.inr (((instI c sl inp first).2.1, false), ((instI c sl inp first).2.1, false), out ++ [c.2.2.2.1.map fun k => (instI c sl inp first).1 k.toNat])) := ob223 (by
            simp only [b223, nbt rfl, cond_false, ble_most (a := out.length + 1) (by omega), Bool.and_true, cond_true])
          refine ⟨z, ob222 ?_, hz2⟩
          simp only [b222, lt_mid, inb_mid, nth_mid, cond_true, Option.bind_some, hS, ht, next_mid pre inp (by omega)]
          exact hz
        · rw [if_neg he] at hS ⊢
          have ht : k223 T.rb (sl, first) out [] (sl, first) (instI c sl inp first).2.2 = some (.inl ((sl, first), out, [], (sl, first), (instI c sl inp first).2.2)) := ob223 (by
            simp only [b223, nbf he, cond_true])
          refine ⟨.inl (c, (sl, first), out, (instI c sl inp first).2.2), ob222 ?_, rfl⟩
          simp only [b222, lt_mid, inb_mid, nth_mid, cond_true, Option.bind_some, hS, ht]
      · rw [if_neg hf] at hS ⊢
        have ht : k223 T.rb (sl, first) out [] (sl, first) 17 = some (.inl ((sl, first), out, [], (sl, first), 17)) := ob223 (by
          simp only [b223]; rfl)
        refine ⟨.inl (c, (sl, first), out, 17), ob222 ?_, rfl⟩
        simp only [b222, lt_mid, inb_mid, nth_mid, cond_true, Option.bind_some, hS, ht]
    · rw [if_neg hf]
      have ht : k223 T.rb (sl, first) out [] (sl, first) 17 = some (.inl ((sl, first), out, [], (sl, first), 17)) := ob223 (by
        simp only [b223]; rfl)
      refine ⟨.inl (c, (sl, first), out, 17), ob222 ?_, rfl⟩
      simp only [b222, lt_mid, inb_mid, nth_mid, cond_true, Option.bind_some, hS, ht]
theorem Run16_eq {c : Cd} (hc : chkC c = 0) (ho : c.2.2.2.1.length ≤ 1000) (hi : c.2.2.2.2.length ≤ 1000) {ins : List (List Int)} (hl : ins.length ≤ 1000) : c50 T.rf c ins = some (runI c ins [] (List.replicate c.2.2.1.toNat 0) true) := or50 (by
  have hP := code_P hc
  have hs := hP.slots
  have hlen := hP.len
  have hB : c58 T.rf c = some (List.replicate c.2.2.1.toNat 0, true) := or58 (by
    simp only [r58, inb'_t (x := c.2.2.1) (n := most) (by omega) (by rw [show most = 274877906944 from rfl]; omega), inb'_t (x := c.2.2.1) (n := c.2.2.1.toNat) (by omega) (by omega), cond_true])
  obtain ⟨z, hz, hz2⟩ := run16_loop hP (by omega) (by omega) ins [] [] (List.replicate c.2.2.1.toNat 0) true (by simpa using hl) (by simpa using hl) (by rw [List.length_replicate]; omega)
  rw [List.nil_append, List.length_nil, show ((0 : Nat) : Int) = (0 : Int) from rfl] at hz
  simp only [r50, refCheckC_eq (c := c) (by omega) (by omega), Option.bind_some, hc, nbt rfl, cond_false, hB, hz]
  rw [← hz2]
  cases z <;> rfl)

end Go.Proofs.Ytanomapnincmoaa.R

/-
  OUR OWN: code that is made may be: each operator that is needed still has a register of its own.
-/
namespace Go.Proofs.Ytanomapnincmoaa.R
open Go Go.Bm Go.Proofs
set_option linter.unusedVariables false
set_option linter.unusedSimpArgs false
set_option maxRecDepth 4000

/-! Registers. -/
structure AlP (E : Nat → Int) (i : Nat) (b R : Int) (q : Mp × List Int) : Prop where
  nod : (keysM q.1).Nodup
  fnod : q.2.Nodup
  free : ∀ r ∈ q.2, 0 ≤ r ∧ r < R
  key : ∀ k, hsM q.1 k = true → 0 ≤ k ∧ k < i ∧ 0 ≤ gtM q.1 k ∧ gtM q.1 k < R ∧ gtM q.1 k ∉ q.2
  inj : ∀ k k', hsM q.1 k = true → hsM q.1 k' = true → gtM q.1 k = gtM q.1 k' → k = k'
  here : ∀ k : Nat, k < i → b ≤ E k → hsM q.1 (k : Int) = true
theorem AlP.free1 {E : Nat → Int} {i : Nat} {R : Int} {q : Mp × List Int} (h : AlP E i (i + 1) R q) (k : Int) : AlP E i (i + 1) R (freeK E i q k) ∧ (∀ y, hsM (freeK E i q k).1 y = true → hsM q.1 y = true ∧ gtM (freeK E i q k).1 y = gtM q.1 y) := by
  unfold freeK
  by_cases hc : hsM q.1 k = true ∧ E k.toNat = i
  · rw [if_pos hc]
    have hk := h.key k hc.1
    have hh : ∀ y, hsM (dlM q.1 k) y = true → y ≠ k ∧ hsM q.1 y = true ∧ gtM (dlM q.1 k) y = gtM q.1 y := fun y hy => by
      rw [hs_dl _ _ _ h.nod, Bool.and_eq_true, Bool.not_eq_true', decide_eq_false_iff_not] at hy
      exact ⟨hy.1, hy.2, gt_dl _ _ hy.1 _⟩
    refine ⟨⟨dl_nodup _ _ h.nod, ?_, ?_, ?_, ?_, ?_⟩, fun y hy => (hh y hy).2⟩
    · rw [List.nodup_append]
      refine ⟨h.fnod, by simp, fun a ha b hb => ?_⟩
      rw [List.mem_singleton] at hb
      rw [hb]
      exact fun e => hk.2.2.2.2 (e ▸ ha)
    · intro r hr
      rcases List.mem_append.1 hr with a | a
      · exact h.free r a
      · rw [List.mem_singleton.1 a]; exact ⟨hk.2.2.1, hk.2.2.2.1⟩
    · intro y hy
      obtain ⟨h1, h2, h3⟩ := hh y hy
      have g := h.key y h2
      show _ ∧ _ ∧ 0 ≤ gtM (dlM q.1 k) y ∧ gtM (dlM q.1 k) y < R ∧ gtM (dlM q.1 k) y ∉ q.2 ++ [gtM q.1 k]
      rw [h3]
      refine ⟨g.1, g.2.1, g.2.2.1, g.2.2.2.1, fun hm => ?_⟩
      rcases List.mem_append.1 hm with a | a
      · exact g.2.2.2.2 a
      · exact h1 (h.inj y k h2 hc.1 (List.mem_singleton.1 a))
    · intro y y' hy hy' he
      obtain ⟨h1, h2, h3⟩ := hh y hy
      obtain ⟨h1', h2', h3'⟩ := hh y' hy'
      have he' : gtM (dlM q.1 k) y = gtM (dlM q.1 k) y' := he
      rw [h3, h3'] at he'
      exact h.inj y y' h2 h2' he'
    · intro y hy hb
      have := h.here y hy hb
      show hsM (dlM q.1 k) y = true
      rw [hs_dl _ _ _ h.nod, this, Bool.and_true, Bool.not_eq_true', decide_eq_false_iff_not]
      intro e
      have h2 := hc.2
      rw [← e, Int.toNat_natCast] at h2
      omega
  · rw [if_neg hc]
    exact ⟨h, fun y hy => ⟨hy, rfl⟩⟩
theorem AlP.frees {E : Nat → Int} {i : Nat} {R : Int} : ∀ (l : List Int) {q : Mp × List Int} (h : AlP E i (i + 1) R q), AlP E i (i + 1) R (l.foldl (freeK E i) q) ∧ (∀ y, hsM (l.foldl (freeK E i) q).1 y = true → hsM q.1 y = true ∧ gtM (l.foldl (freeK E i) q).1 y = gtM q.1 y)
  | [], q, h => ⟨h, fun y hy => ⟨hy, rfl⟩⟩
  | k :: l, q, h => by
    obtain ⟨h1, h2⟩ := h.free1 k
    obtain ⟨h3, h4⟩ := AlP.frees l h1
    refine ⟨h3, fun y hy => ?_⟩
    obtain ⟨a, b⟩ := h4 y hy
    obtain ⟨a', b'⟩ := h2 y a
    exact ⟨a', b.trans b'⟩
theorem take_spec {R : Int} {F : List Int} (hR : 0 ≤ R) (hn : F.Nodup) (hf : ∀ r ∈ F, 0 ≤ r ∧ r < R) : R ≤ (takeM R F).1 ∧ (takeM R F).2.1.Nodup ∧ (∀ r ∈ (takeM R F).2.1, r ∈ F) ∧ 0 ≤ (takeM R F).2.2 ∧ (takeM R F).2.2 < (takeM R F).1 ∧ (takeM R F).2.2 ∉ (takeM R F).2.1 ∧ ((takeM R F).2.2 = R ∨ (takeM R F).2.2 ∈ F) := by
  unfold takeM
  by_cases h : F.length = 0
  · have : F = [] := List.length_eq_zero_iff.1 h
    subst this
    rw [if_pos h]
    refine ⟨by show R ≤ R + 1; omega, hn, fun r hr => hr, hR, by show R < R + 1; omega, by simp, Or.inl rfl⟩
  · rw [if_neg h]
    have hl : F.length - 1 < F.length := by omega
    have he : F = F.take (F.length - 1) ++ [F.getD (F.length - 1) 0] := by
      rw [List.getD_eq_getElem?_getD, List.getElem?_eq_getElem hl, Option.getD_some, List.take_append_getElem hl, Nat.sub_add_cancel (by omega), List.take_length]
    have hm : F.getD (F.length - 1) 0 ∈ F := by
      rw [List.getD_eq_getElem?_getD, List.getElem?_eq_getElem hl]; exact List.getElem_mem hl
    have hn2 : (F.take (F.length - 1) ++ [F.getD (F.length - 1) 0]).Nodup := he ▸ hn
    rw [List.nodup_append] at hn2
    exact ⟨Int.le_refl _, hn2.1, fun r hr => List.mem_of_mem_take hr, (hf _ hm).1, (hf _ hm).2, fun hr => hn2.2.2 _ hr _ (List.mem_singleton.2 rfl) rfl, Or.inr hm⟩
section
variable {N : Nt} {E : Nat → Int} {S : Mp}
theorem alloc_P : ∀ p, AlP E p p (allocA N E S p).1 (allocA N E S p).2.2
  | 0 => ⟨by simp [allocA, keysM], by simp [allocA], fun r hr => by simp [allocA] at hr, fun k hk => by rw [allocA] at hk; exact absurd hk (by rw [hs_nil]; decide), fun k k' hk => by rw [allocA] at hk; exact absurd hk (by rw [hs_nil]; decide), fun k hk => by omega⟩
  | p + 1 => by
    have ih := alloc_P p
    have hR := (alloc_R (N := N) E S p).1
    have w : AlP E p (p + 1) (allocA N E S p).1 (allocA N E S p).2.2 := ⟨ih.nod, ih.fnod, ih.free, ih.key, ih.inj, fun k hk hb => ih.here k hk (by omega)⟩
    obtain ⟨h, _⟩ := w.frees (opsN (opAtN N p))
    have hst : allocA N E S (p + 1) = stepA N E S (allocA N E S p) p := rfl
    rw [hst]
    generalize allocA N E S p = s at *
    have hq : (opsN (opAtN N p)).foldl (freeK E p) s.2.2 = frA N E s p := rfl
    rw [hq] at h
    obtain ⟨t1, t2, t3, t4, t5, t6, t7⟩ := take_spec hR h.fnod h.free
    have ht : takeM s.1 (frA N E s p).2 = tkA N E s p := rfl
    rw [ht] at t1 t2 t3 t4 t5 t6 t7
    have hne : ∀ k, hsM (frA N E s p).1 k = true → gtM (frA N E s p).1 k ≠ (tkA N E s p).2.2 := fun k hk e => by
      have g := h.key k hk
      rcases t7 with a | a
      · omega
      · exact g.2.2.2.2 (e ▸ a)
    show AlP E (p + 1) ((p + 1 : Nat) : Int) (tkA N E s p).1 (if E p < 0 then (frA N E s p).1 else stM (frA N E s p).1 p (tkA N E s p).2.2, if E p < 0 then (tkA N E s p).2.1 ++ [(tkA N E s p).2.2] else (tkA N E s p).2.1)
    by_cases h0 : E p < 0
    · rw [if_pos h0, if_pos h0]
      refine ⟨h.nod, ?_, ?_, ?_, h.inj, ?_⟩
      · rw [List.nodup_append]
        refine ⟨t2, by simp, fun a ha b hb => ?_⟩
        rw [List.mem_singleton] at hb
        rw [hb]
        exact fun e => t6 (e ▸ ha)
      · intro r hr
        rcases List.mem_append.1 hr with a | a
        · have := h.free r (t3 r a); omega
        · rw [List.mem_singleton.1 a]; exact ⟨t4, t5⟩
      · intro k hk
        have g := h.key k hk
        refine ⟨g.1, by have := g.2.1; omega, g.2.2.1, Int.lt_of_lt_of_le g.2.2.2.1 t1, fun hm => ?_⟩
        rcases List.mem_append.1 hm with a | a
        · exact g.2.2.2.2 (t3 _ a)
        · exact hne k hk (List.mem_singleton.1 a)
      · intro k hk hb
        by_cases e : k = p
        · subst e; omega
        · exact h.here k (by omega) (by omega)
    · rw [if_neg h0, if_neg h0]
      have hcase : ∀ k, hsM (stM (frA N E s p).1 p (tkA N E s p).2.2) k = true → (k = p ∧ gtM (stM (frA N E s p).1 p (tkA N E s p).2.2) k = (tkA N E s p).2.2) ∨ (k ≠ p ∧ hsM (frA N E s p).1 k = true ∧ gtM (stM (frA N E s p).1 p (tkA N E s p).2.2) k = gtM (frA N E s p).1 k) := fun k hk => by
        rw [gt_st]
        by_cases e : k = p
        · rw [if_pos e]; exact Or.inl ⟨e, rfl⟩
        · rw [if_neg e]
          rw [hs_st, Bool.or_eq_true, decide_eq_true_iff] at hk
          exact Or.inr ⟨e, hk.resolve_left e, rfl⟩
      refine ⟨st_nodup _ _ _ h.nod, t2, ?_, ?_, ?_, ?_⟩
      · intro r hr
        have := h.free r (t3 r hr); omega
      · intro k hk
        show _ ∧ _ ∧ 0 ≤ gtM (stM (frA N E s p).1 p (tkA N E s p).2.2) k ∧ gtM (stM (frA N E s p).1 p (tkA N E s p).2.2) k < _ ∧ gtM (stM (frA N E s p).1 p (tkA N E s p).2.2) k ∉ _
        rcases hcase k hk with ⟨a, b⟩ | ⟨a, b, c⟩
        · rw [b]; exact ⟨by omega, by omega, t4, t5, t6⟩
        · have g := h.key k b
          rw [c]
          exact ⟨g.1, by have := g.2.1; omega, g.2.2.1, by have := g.2.2.2.1; omega, fun hm => g.2.2.2.2 (t3 _ hm)⟩
      · intro k k' hk hk' he
        have he2 : gtM (stM (frA N E s p).1 p (tkA N E s p).2.2) k = gtM (stM (frA N E s p).1 p (tkA N E s p).2.2) k' := he
        rcases hcase k hk with ⟨a, b⟩ | ⟨a, b, c⟩
        · rcases hcase k' hk' with ⟨a', b'⟩ | ⟨a', b', c'⟩
          · rw [a, a']
          · rw [b, c'] at he2; exact absurd he2.symm (hne k' b')
        · rcases hcase k' hk' with ⟨a', b'⟩ | ⟨a', b', c'⟩
          · rw [c, b'] at he2; exact absurd he2 (hne k b)
          · rw [c, c'] at he2; exact h.inj k k' b b' he2
      · intro k hk hb
        show hsM (stM (frA N E s p).1 p (tkA N E s p).2.2) k = true
        rw [hs_st]
        by_cases e : k = p
        · subst e; rw [dt rfl]; rfl
        · rw [h.here k (by omega) (by omega), Bool.or_true]
/-- What stays of an operator's step: the keys' registers, the new one's. -/
theorem alloc_next (p : Nat) (k : Int) (hk : hsM (allocA N E S (p + 1)).2.2.1 k = true) :
    (k = p ∧ gtM (allocA N E S (p + 1)).2.2.1 k = (tkA N E (allocA N E S p) p).2.2) ∨ (k ≠ p ∧ hsM (allocA N E S p).2.2.1 k = true ∧ gtM (allocA N E S (p + 1)).2.2.1 k = gtM (allocA N E S p).2.2.1 k ∧ gtM (allocA N E S p).2.2.1 k ≠ (tkA N E (allocA N E S p) p).2.2) := by
  have ih := alloc_P (N := N) (E := E) (S := S) p
  have hR := (alloc_R (N := N) E S p).1
  have w : AlP E p (p + 1) (allocA N E S p).1 (allocA N E S p).2.2 := ⟨ih.nod, ih.fnod, ih.free, ih.key, ih.inj, fun k hk hb => ih.here k hk (by omega)⟩
  obtain ⟨h, hsame⟩ := w.frees (opsN (opAtN N p))
  have hst : allocA N E S (p + 1) = stepA N E S (allocA N E S p) p := rfl
  rw [hst] at hk ⊢
  generalize allocA N E S p = s at *
  have hq : (opsN (opAtN N p)).foldl (freeK E p) s.2.2 = frA N E s p := rfl
  rw [hq] at h hsame
  obtain ⟨t1, t2, t3, t4, t5, t6, t7⟩ := take_spec hR h.fnod h.free
  have ht : takeM s.1 (frA N E s p).2 = tkA N E s p := rfl
  rw [ht] at t1 t2 t3 t4 t5 t6 t7
  have hne : ∀ k, hsM (frA N E s p).1 k = true → gtM (frA N E s p).1 k ≠ (tkA N E s p).2.2 := fun k hk e => by
    have g := h.key k hk
    rcases t7 with a | a
    · omega
    · exact g.2.2.2.2 (e ▸ a)
  have hk' : hsM (if E p < 0 then (frA N E s p).1 else stM (frA N E s p).1 p (tkA N E s p).2.2) k = true := hk
  show (k = p ∧ gtM (if E p < 0 then (frA N E s p).1 else stM (frA N E s p).1 p (tkA N E s p).2.2) k = _) ∨ (k ≠ p ∧ _ ∧ gtM (if E p < 0 then (frA N E s p).1 else stM (frA N E s p).1 p (tkA N E s p).2.2) k = _ ∧ _)
  by_cases h0 : E p < 0
  · rw [if_pos h0] at hk' ⊢
    obtain ⟨a, b⟩ := hsame k hk'
    have g := h.key k hk'
    refine Or.inr ⟨by omega, a, b, b ▸ hne k hk'⟩
  · rw [if_neg h0] at hk' ⊢
    rw [gt_st]
    by_cases e : k = p
    · rw [if_pos e]; exact Or.inl ⟨e, rfl⟩
    · rw [if_neg e]
      rw [hs_st, Bool.or_eq_true, decide_eq_true_iff] at hk'
      have hk2 := hk'.resolve_left e
      obtain ⟨a, b⟩ := hsame k hk2
      exact Or.inr ⟨e, a, b, b ▸ hne k hk2⟩
theorem alloc_take (p : Nat) : 0 ≤ (tkA N E (allocA N E S p) p).2.2 ∧ (tkA N E (allocA N E S p) p).2.2 < (allocA N E S (p + 1)).1 ∧ (allocA N E S p).1 ≤ (allocA N E S (p + 1)).1 ∧ ((allocA N E S (p + 1)).1 = (allocA N E S p).1 ∨ (tkA N E (allocA N E S p) p).2.2 = (allocA N E S p).1) := by
  have ih := alloc_P (N := N) (E := E) (S := S) p
  have hR := (alloc_R (N := N) E S p).1
  have w : AlP E p (p + 1) (allocA N E S p).1 (allocA N E S p).2.2 := ⟨ih.nod, ih.fnod, ih.free, ih.key, ih.inj, fun k hk hb => ih.here k hk (by omega)⟩
  obtain ⟨h, hsame⟩ := w.frees (opsN (opAtN N p))
  have hst : allocA N E S (p + 1) = stepA N E S (allocA N E S p) p := rfl
  rw [hst]
  generalize allocA N E S p = s at *
  obtain ⟨t1, t2, t3, t4, t5, t6, t7⟩ := take_spec hR h.fnod h.free
  refine ⟨t4, t5, t1, ?_⟩
  show (takeM s.1 (frA N E s p).2).1 = s.1 ∨ (takeM s.1 (frA N E s p).2).2.2 = s.1
  unfold takeM
  split
  · exact Or.inr rfl
  · exact Or.inl rfl
end

/-! Slots. -/
theorem slots_get (N : Nt) : ∀ p k, k ∈ presN N p → 0 ≤ gtM (slotsM N p) k ∧ gtM (slotsM N p) k < (presN N p).length ∧ (presN N p).getD (gtM (slotsM N p) k).toNat 0 = k
  | 0, k, h => by simp [presN] at h
  | p + 1, k, h => by
    have ih := slots_get N p
    rw [slotsM, presN] at *
    by_cases hc : (opAtN N p).1 = 21 ∧ (opAtN N p).2.1 ∉ presN N p
    · rw [if_pos hc] at h ⊢
      rw [if_pos ⟨hc.1, by rw [slots_has]; exact df hc.2⟩, gt_st, slots_len, List.length_append, List.length_singleton]
      by_cases e : k = (opAtN N p).2.1
      · rw [if_pos e, Int.toNat_natCast]
        refine ⟨by omega, by omega, ?_⟩
        rw [List.getD_eq_getElem?_getD, List.getElem?_append_right (Nat.le_refl _), Nat.sub_self]
        exact e.symm
      · rw [if_neg e]
        have hk : k ∈ presN N p := (List.mem_append.1 h).resolve_right (fun a => e (List.mem_singleton.1 a))
        obtain ⟨a, b, c⟩ := ih k hk
        refine ⟨a, by omega, ?_⟩
        rw [List.getD_eq_getElem?_getD, List.getElem?_append_left (by omega), ← List.getD_eq_getElem?_getD]
        exact c
    · rw [if_neg hc] at h ⊢
      rw [if_neg (fun g => hc ⟨g.1, by have := g.2; rw [slots_has] at this; exact of_decide_eq_false this⟩)]
      exact ih k h
theorem pres_mem {N : Nt} (hL : LineP N) : ∀ p, p ≤ N.1.length → ∀ k ∈ presN N p, 0 ≤ k ∧ k < N.1.length
  | 0, _, k, h => by simp [presN] at h
  | p + 1, hp, k, h => by
    have ih := pres_mem hL p (by omega)
    rw [presN] at h
    by_cases hc : (opAtN N p).1 = 21 ∧ (opAtN N p).2.1 ∉ presN N p
    · rw [if_pos hc] at h
      rcases List.mem_append.1 h with a | a
      · exact ih k a
      · rw [List.mem_singleton.1 a]; exact hL.pre (by omega) hc.1
    · rw [if_neg hc] at h; exact ih k h
theorem pres_in (N : Nt) : ∀ m p, p < m → (opAtN N p).1 = 21 → (opAtN N p).2.1 ∈ presN N m
  | 0, p, h, _ => by omega
  | m + 1, p, h, h21 => by
    rw [presN]
    by_cases e : p = m
    · subst e
      by_cases hin : (opAtN N p).2.1 ∈ presN N p
      · rw [if_neg (fun g => g.2 hin)]; exact hin
      · rw [if_pos ⟨h21, hin⟩]; simp
    · have ih := pres_in N m p (by omega) h21
      split
      · exact List.mem_append_left _ ih
      · exact ih
theorem pres_nodup (N : Nt) : ∀ p, (presN N p).Nodup
  | 0 => by simp [presN]
  | p + 1 => by
    have ih := pres_nodup N p
    rw [presN]
    split
    · rename_i h
      rw [List.nodup_append]
      refine ⟨ih, by simp, fun a ha b hb => ?_⟩
      rw [List.mem_singleton] at hb
      rw [hb]
      exact fun e => h.2 (e ▸ ha)
    · exact ih

/-! Where each is needed last. -/
theorem end_P {N : Nt} (told : List Int) {i : Nat} (hi : i < N.1.length) {k : Nat} (hk : k ∈ LN N i) : (i : Int) ≤ endP N told N.1.length k := by
  unfold endP endT
  split
  · omega
  · split
    · omega
    · exact end_ge N k _ i hi hk

/-! What is made may be. -/
theorem runC_app (c : Cd) : ∀ (a b : List Ic) (s : List Int × List Int), runC c (a ++ b) s = match runC c a s with
      | none => none
      | some s' => runC c b s'
  | [], b, s => rfl
  | x :: a, b, s => by
    rw [List.cons_append, runC, runC]
    cases stepC c x s with
    | none => rfl
    | some s' => exact runC_app c a b s'
theorem list3 (l : List Int) (h : l.length ≤ 3) : [l.getD 0 0, l.getD 1 0, l.getD 2 0].take l.length = l := by
  rcases l with _ | ⟨a, _ | ⟨b, _ | ⟨c, _ | ⟨d, r⟩⟩⟩⟩
  · rfl
  · rfl
  · rfl
  · rfl
  · simp at h
theorem rd_ops {x : Od} (h : 0 ≤ kidsN x.1) : rdN x.1 = ((opsN x).length : Int) := by
  by_cases h21 : x.1 = 21
  · rw [show opsN x = [] from if_pos h21, h21]; rfl
  · rw [rd_kids h21 (no30 h), show opsN x = usedN x from if_neg h21, usedN, List.length_take]
    have := kidsN_le x.1
    show _ = ((min (kidsN x.1).toNat 3 : Nat) : Int)
    omega
theorem getD_ge {l : List Int} {j : Nat} (h : l.length ≤ j) : l.getD j 0 = 0 := by
  rw [List.getD_eq_getElem?_getD, List.getElem?_eq_none h]; rfl
section
variable {N : Nt}
theorem ins_rdL {p : Nat} (hk : 0 ≤ kidsN (opAtN N p).1) (S M : Mp) (D : Int) : rdL (insA S (opAtN N p) M D) = (opsN (opAtN N p)).map (gtM M) := by
  have h3 := opsN_len (opAtN N p)
  show [_, _, _].take (rdN (opAtN N p).1).toNat = _
  rw [rd_ops hk, Int.toNat_natCast]
  have := list3 ((opsN (opAtN N p)).map (gtM M)) (by rw [List.length_map]; exact h3)
  rw [List.length_map] at this
  exact this
theorem ins_ok (hL : LineP N) {p : Nat} (hp : p < N.1.length) (c : Cd) (hi : c.2.2.2.2 = N.2.2) (hs : c.2.2.1 = ((slotsM N N.1.length).length : Nat)) (M : Mp) (D : Int) : okI c (insA (slotsM N N.1.length) (opAtN N p) M D) = true := by
  have hk := (may_N hL.may).kids p hp
  obtain ⟨_, hpl⟩ := may_at hL.may hp
  have hrd := rd_ops hk
  have h3 := opsN_len (opAtN N p)
  have hn30 := no30 hk
  have hlen : ((opsN (opAtN N p)).map (gtM M)).length = (opsN (opAtN N p)).length := List.length_map ..
  have hslot : (opAtN N p).1 = 21 → 0 ≤ gtM (slotsM N N.1.length) (opAtN N p).2.1 ∧ gtM (slotsM N N.1.length) (opAtN N p).2.1 < c.2.2.1 := fun h21 => by
    have g := slots_get N N.1.length _ (pres_in N N.1.length p hp h21)
    rw [hs, slots_len]; exact ⟨g.1, g.2.1⟩
  rw [okI_iff]
  refine dt ?_
  unfold insA
  refine ⟨by show 0 ≤ rdN (opAtN N p).1; omega, ⟨fun h => getD_ge ?_, fun h => getD_ge ?_, fun h => getD_ge ?_, fun h => absurd h hn30, ?_⟩, fun h => ?_, fun h => ?_, fun h => ?_, fun h => ?_⟩
  · have h' : rdN (opAtN N p).1 < 1 := h
    omega
  · have h' : rdN (opAtN N p).1 < 2 := h
    omega
  · have h' : rdN (opAtN N p).1 < 3 := h
    omega
  · show ((opAtN N p).1 = 3 ∨ (opAtN N p).1 = 1 ∨ (opAtN N p).1 = 2 ∨ (opAtN N p).1 = 21 ∨ (opAtN N p).1 = 30) ∨ (if (opAtN N p).1 = 21 then _ else (opAtN N p).2.2.2.2) = 0
    by_cases h' : (opAtN N p).1 = 3 ∨ (opAtN N p).1 = 1 ∨ (opAtN N p).1 = 2 ∨ (opAtN N p).1 = 21
    · left; omega
    · right
      rw [if_neg (by omega)]
      rw [plainN, if_neg (by omega), if_neg (by omega), if_neg (by omega)] at hpl
      exact of_decide_eq_true hpl
  · have h' : (opAtN N p).1 = 3 := h
    show 0 ≤ (if (opAtN N p).1 = 21 then _ else (opAtN N p).2.2.2.2) ∧ (if (opAtN N p).1 = 21 then _ else (opAtN N p).2.2.2.2) < _
    rw [if_neg (by omega), hi]
    rw [plainN, if_pos h'] at hpl
    exact of_decide_eq_true hpl
  · have h' : (opAtN N p).1 = 1 := h
    show _ ≤ (if (opAtN N p).1 = 21 then _ else (opAtN N p).2.2.2.2) ∧ (if (opAtN N p).1 = 21 then _ else (opAtN N p).2.2.2.2) ≤ _
    rw [if_neg (by omega)]
    rw [plainN, if_neg (by omega), if_pos h'] at hpl
    exact of_decide_eq_true hpl
  · have h' : (opAtN N p).1 = 2 := h
    show (if (opAtN N p).1 = 21 then _ else (opAtN N p).2.2.2.2) = 0 ∨ (if (opAtN N p).1 = 21 then _ else (opAtN N p).2.2.2.2) = 1
    rw [if_neg (by omega)]
    rw [plainN, if_neg (by omega), if_neg (by omega), if_pos h'] at hpl
    exact of_decide_eq_true hpl
  · have h' : (opAtN N p).1 = 21 ∨ (opAtN N p).1 = 30 := h
    have h21 : (opAtN N p).1 = 21 := h'.resolve_right hn30
    show 0 ≤ (if (opAtN N p).1 = 21 then _ else (opAtN N p).2.2.2.2) ∧ (if (opAtN N p).1 = 21 then _ else (opAtN N p).2.2.2.2) < _
    rw [if_pos h21]
    exact hslot h21
theorem here_at {E : Nat → Int} {S : Mp} (hL : LineP N) {told : List Int} {p : Nat} (hp : p < N.1.length) : ∀ k ∈ opsN (opAtN N p), hsM (allocA N (endP N told N.1.length) S p).2.2.1 k = true := fun k hk => by
  have hP := alloc_P (N := N) (E := endP N told N.1.length) (S := S) p
  have hr := (may_N hL.may).ops p hp k hk
  have hkp := hL.line p hp k hk
  have := hP.here k.toNat (by omega) (end_P told hp (List.mem_map.2 ⟨k, hk, rfl⟩))
  rwa [show ((k.toNat : Nat) : Int) = k by omega] at this
theorem alloc_run (hL : LineP N) (told : List Int) (c : Cd) (hi : c.2.2.2.2 = N.2.2) (hs : c.2.2.1 = ((slotsM N N.1.length).length : Nat)) : ∀ p, p ≤ N.1.length → (allocA N (endP N told N.1.length) (slotsM N N.1.length) p).1 ≤ c.2.1 →
    ∃ w, runC c (allocA N (endP N told N.1.length) (slotsM N N.1.length) p).2.1 ([], []) = some (w, []) ∧ ∀ k, 0 ≤ k → k < (allocA N (endP N told N.1.length) (slotsM N N.1.length) p).1 → k ∈ w
  | 0, _, _ => ⟨[], rfl, fun k h1 h2 => by have : k < 0 := h2; omega⟩
  | p + 1, hp, hR => by
    have ht := alloc_take (N := N) (E := endP N told N.1.length) (S := slotsM N N.1.length) p
    have hP := alloc_P (N := N) (E := endP N told N.1.length) (S := slotsM N N.1.length) p
    obtain ⟨w, hw, hwm⟩ := alloc_run hL told c hi hs p (by omega) (by omega)
    have hhere := here_at (E := endP N told N.1.length) (S := slotsM N N.1.length) hL (told := told) (p := p) (by omega)
    have hk := (may_N hL.may).kids p (by omega)
    have hn30 := no30 hk
    have hst : allocA N (endP N told N.1.length) (slotsM N N.1.length) (p + 1) = stepA N (endP N told N.1.length) (slotsM N N.1.length) (allocA N (endP N told N.1.length) (slotsM N N.1.length) p) p := rfl
    have hok := ins_ok hL (p := p) (by omega) c hi hs (allocA N (endP N told N.1.length) (slotsM N N.1.length) p).2.2.1 (tkA N (endP N told N.1.length) (allocA N (endP N told N.1.length) (slotsM N N.1.length) p) p).2.2
    have hrl := ins_rdL hk (slotsM N N.1.length) (allocA N (endP N told N.1.length) (slotsM N N.1.length) p).2.2.1 (tkA N (endP N told N.1.length) (allocA N (endP N told N.1.length) (slotsM N N.1.length) p) p).2.2
    refine ⟨(tkA N (endP N told N.1.length) (allocA N (endP N told N.1.length) (slotsM N N.1.length) p) p).2.2 :: w, ?_, fun k h1 h2 => ?_⟩
    · rw [hst]
      show runC c (_ ++ [insA _ _ _ _]) _ = _
      rw [runC_app, hw]
      have hy1 : (insA (slotsM N N.1.length) (opAtN N p) (allocA N (endP N told N.1.length) (slotsM N N.1.length) p).2.2.1 (tkA N (endP N told N.1.length) (allocA N (endP N told N.1.length) (slotsM N N.1.length) p) p).2.2).1 = (opAtN N p).1 := rfl
      have hy2 : (insA (slotsM N N.1.length) (opAtN N p) (allocA N (endP N told N.1.length) (slotsM N N.1.length) p).2.2.1 (tkA N (endP N told N.1.length) (allocA N (endP N told N.1.length) (slotsM N N.1.length) p) p).2.2).2.1 = (tkA N (endP N told N.1.length) (allocA N (endP N told N.1.length) (slotsM N N.1.length) p) p).2.2 := rfl
      generalize insA (slotsM N N.1.length) (opAtN N p) (allocA N (endP N told N.1.length) (slotsM N N.1.length) p).2.2.1 (tkA N (endP N told N.1.length) (allocA N (endP N told N.1.length) (slotsM N N.1.length) p) p).2.2 = y at *
      show (match stepC c y (w, []) with
        | none => none
        | some s' => some s') = _
      rw [stepC, hrl, if_pos ⟨hok, List.all_eq_true.2 fun r hr => dt (by
        obtain ⟨k, hk1, rfl⟩ := List.mem_map.1 hr
        have g := hP.key k (hhere k hk1)
        exact hwm _ g.2.2.1 g.2.2.2.1)⟩, if_neg (by rw [hy1]; exact hn30), if_neg (by
        intro hb
        rw [hy2] at hb
        rcases hb with hb | hb | hb
        · omega
        · omega
        · exact hb.2 rfl), hy2]
    · rcases ht.2.2.2 with e | e
      · exact List.mem_cons_of_mem _ (hwm k h1 (by omega))
      · by_cases e2 : k < (allocA N (endP N told N.1.length) (slotsM N N.1.length) p).1
        · exact List.mem_cons_of_mem _ (hwm k h1 e2)
        · have hr1 := take_R (allocA N (endP N told N.1.length) (slotsM N N.1.length) p).1 (frA N (endP N told N.1.length) (allocA N (endP N told N.1.length) (slotsM N N.1.length) p) p).2
          have e3 : (allocA N (endP N told N.1.length) (slotsM N N.1.length) (p + 1)).1 = (takeM (allocA N (endP N told N.1.length) (slotsM N N.1.length) p).1 (frA N (endP N told N.1.length) (allocA N (endP N told N.1.length) (slotsM N N.1.length) p) p).2).1 := rfl
          rw [← e3] at hr1
          have : k = (tkA N (endP N told N.1.length) (allocA N (endP N told N.1.length) (slotsM N N.1.length) p) p).2.2 := by omega
          rw [this]; exact List.mem_cons_self
theorem store_run (c : Cd) (S M : Mp) (w : List Int) (hS : ∀ k, hsM S k = true → 0 ≤ gtM S k ∧ gtM S k < c.2.2.1 ∧ gtM M k ∈ w) (hinj : ∀ k k', hsM S k = true → hsM S k' = true → gtM S k = gtM S k' → k = k') : ∀ (l : List Nat) (st : List Int), l.Nodup → (∀ i ∈ l, hsM S (i : Int) = true → gtM S (i : Int) ∉ st) → ∃ st', runC c (storesM S M l) (w, st) = some (w, st')
  | [], st, _, _ => ⟨st, rfl⟩
  | i :: l, st, hn, hst => by
    rw [List.nodup_cons] at hn
    rw [storesM_cons]
    by_cases hh : hsM S (i : Int) = true
    · have g := hS i hh
      have hni := hst i List.mem_cons_self hh
      obtain ⟨st', h'⟩ := store_run c S M w hS hinj l (gtM S (i : Int) :: st) hn.2 (fun j hj hjs hm => by
        rcases List.mem_cons.1 hm with a | a
        · have := hinj _ _ hjs hh a
          exact hn.1 ((Int.ofNat_inj.1 this) ▸ hj)
        · exact hst j (List.mem_cons_of_mem _ hj) hjs a)
      refine ⟨st', ?_⟩
      rw [if_pos hh, runC]
      have hstep : stepC c (30, 0, gtM M (i : Int), 0, 0, gtM S (i : Int)) (w, st) = some (w, gtM S (i : Int) :: st) := by
        rw [stepC, if_pos ⟨by
          rw [okI_iff]
          refine dt ⟨show 0 ≤ rdN 30 by decide, ⟨fun h => absurd (show rdN 30 < 1 from h) (by decide), fun h => rfl, fun h => rfl, fun h => rfl, Or.inl (Or.inr (Or.inr (Or.inr (Or.inr rfl))))⟩, fun h => absurd (show (30 : Int) = 3 from h) (by decide), fun h => absurd (show (30 : Int) = 1 from h) (by decide), fun h => absurd (show (30 : Int) = 2 from h) (by decide), fun h => ⟨g.1, g.2.1⟩⟩, List.all_eq_true.2 fun r hr => dt (by
            have hr' : r ∈ [gtM M (i : Int)] := hr
            rw [List.mem_singleton.1 hr']; exact g.2.2)⟩, if_pos rfl, if_neg hni]
      rw [hstep]
      exact h'
    · rw [if_neg hh]
      exact store_run c S M w hS hinj l st hn.2 (fun j hj => hst j (List.mem_cons_of_mem _ hj))
theorem slots_inj (N : Nt) : ∀ k k', hsM (slotsM N N.1.length) k = true → hsM (slotsM N N.1.length) k' = true → gtM (slotsM N N.1.length) k = gtM (slotsM N N.1.length) k' → k = k' := fun k k' h h' e => by
  rw [slots_has] at h h'
  have g := (slots_get N N.1.length k (of_decide_eq_true h)).2.2
  have g' := (slots_get N N.1.length k' (of_decide_eq_true h')).2.2
  rw [← g, ← g', e]
theorem kept_at (hL : LineP N) (told : List Int) {k : Int} (hk : 0 ≤ k ∧ k < N.1.length) (h : k ∈ presN N N.1.length ∨ k ∈ rootsM N told) : hsM (alN N told).2.2.1 k = true := by
  have hP := alloc_P (N := N) (E := endP N told N.1.length) (S := slotsM N N.1.length) N.1.length
  have := hP.here k.toNat (by omega) (by
    unfold endP endT
    rw [show ((k.toNat : Nat) : Int) = k by omega]
    rcases h with h | h
    · rw [if_pos h]; omega
    · split <;> simp [h])
  rwa [show ((k.toNat : Nat) : Int) = k by omega] at this
theorem roots_in (hN : NetP N) {told : List Int} (ht : toldB N.2.1.length told = true) : ∀ k ∈ rootsM N told, 0 ≤ k ∧ k < N.1.length := fun k hk => by
  obtain ⟨t, ht1, rfl⟩ := List.mem_map.1 hk
  have g := told_all ht t ht1
  have hl : t.toNat < N.2.1.length := by omega
  refine hN.root _ ?_
  rw [List.getD_eq_getElem?_getD, List.getElem?_eq_getElem hl]; exact List.getElem_mem hl
theorem filter_le {α : Type} [DecidableEq α] : ∀ (P : List α) (l : List α), l.Nodup → (∀ x ∈ l, x ∈ P) → l.length ≤ P.length
  | [], l, hn, h => by
    cases l with
    | nil => exact Nat.le_refl _
    | cons x r => exact absurd (h x List.mem_cons_self) (by simp)
  | a :: P, l, hn, h => by
    have ih := filter_le P (l.erase a) (hn.erase a) (fun x hx => by
      have hx1 := (hn.mem_erase_iff).1 hx
      exact (List.mem_cons.1 (h x hx1.2)).resolve_left hx1.1)
    by_cases ha : a ∈ l
    · rw [List.length_erase_of_mem ha] at ih
      rw [List.length_cons]; omega
    · rw [List.erase_of_not_mem ha] at ih
      rw [List.length_cons]; omega
theorem stores_len (S M : Mp) (P : List Int) (hS : ∀ k, hsM S k = decide (k ∈ P)) (L : Nat) : (storesM S M (List.range L)).length ≤ P.length := by
  rw [storesM, List.length_map]
  have := filter_le P (((List.range L).filter fun (i : Nat) => hsM S (i : Int)).map fun (i : Nat) => (i : Int)) (by
    refine List.Pairwise.map _ (fun a b (h : a ≠ b) => ?_) (List.nodup_range.filter _)
    omega) (fun x hx => by
    obtain ⟨i, hi, rfl⟩ := List.mem_map.1 hx
    have := (List.mem_filter.1 hi).2
    rw [hS] at this
    exact of_decide_eq_true this)
  rwa [List.length_map] at this
theorem code_chk (hL : LineP N) (hl : N.1.length ≤ 1000) {told : List Int} (ht : toldB N.2.1.length told = true) : chkC (codeN N told) = 0 := by
  have hR := alloc_R (N := N) (endP N told N.1.length) (slotsM N N.1.length) N.1.length
  have hC := alloc_C (N := N) (endP N told N.1.length) (slotsM N N.1.length) N.1.length
  have hpl := pres_len N N.1.length
  have hsl := slots_len N N.1.length
  have hstl := stores_len (slotsM N N.1.length) (alN N told).2.2.1 (presN N N.1.length) (slots_has N N.1.length) N.1.length
  obtain ⟨w, hw, hwm⟩ := alloc_run hL told (codeN N told) rfl rfl N.1.length (Nat.le_refl _) (Int.le_refl _)
  have hP := alloc_P (N := N) (E := endP N told N.1.length) (S := slotsM N N.1.length) N.1.length
  have hreg : ∀ k, hsM (alN N told).2.2.1 k = true → gtM (alN N told).2.2.1 k ∈ w := fun k hk => by
    have g := hP.key k hk
    exact hwm _ g.2.2.1 g.2.2.2.1
  obtain ⟨st, hst⟩ := store_run (codeN N told) (slotsM N N.1.length) (alN N told).2.2.1 w (fun k hk => by
    rw [slots_has] at hk
    have hk := of_decide_eq_true hk
    have g := slots_get N N.1.length k hk
    exact ⟨g.1, by show _ < (((slotsM N N.1.length).length : Nat) : Int); rw [hsl]; exact g.2.1, hreg k (kept_at hL told (pres_mem hL _ (Nat.le_refl _) k hk) (Or.inl hk))⟩) (slots_inj N) (List.range N.1.length) [] List.nodup_range (fun i _ _ h => by simp at h)
  refine chkC_zero.2 ⟨df ?_, (w, st), ?_, ?_⟩
  · have e1 : (codeN N told).1.length = (alN N told).2.1.length + (storesM (slotsM N N.1.length) (alN N told).2.2.1 (List.range N.1.length)).length := List.length_append ..
    have e2 : (alN N told).2.1.length = N.1.length := hC
    have e3 : (codeN N told).2.1 = (allocA N (endP N told N.1.length) (slotsM N N.1.length) N.1.length).1 := rfl
    have e4 : (codeN N told).2.2.1 = (((slotsM N N.1.length).length : Nat) : Int) := rfl
    omega
  · show runC (codeN N told) ((alN N told).2.1 ++ _) _ = _
    rw [runC_app]
    rw [show runC (codeN N told) (alN N told).2.1 ([], []) = some (w, []) from hw]
    exact hst
  · refine List.all_eq_true.2 fun r hr => dt ?_
    have hr' : r ∈ (rootsM N told).map (gtM (alN N told).2.2.1) := hr
    obtain ⟨k, hk, rfl⟩ := List.mem_map.1 hr'
    exact hreg k (kept_at hL told (roots_in (may_N hL.may) ht k hk) (Or.inr hk))
end

end Go.Proofs.Ytanomapnincmoaa.R

/-
  OUR OWN: code tells what the net tells that it was made of; the laws CodeSame, CodeSizes, CodeTold.
-/
namespace Go.Proofs.Ytanomapnincmoaa.R
open Go Go.Bm Go.Proofs
set_option linter.unusedVariables false
set_option linter.unusedSimpArgs false
set_option maxRecDepth 4000

/-- Slots that hold what was told at the instant ahead. -/
def RelS (N : Nt) (W sl : List Int) (first : Bool) : Prop :=
  (first = true ∧ W.length = 0 ∧ ∀ j, sl.getD j 0 = 0) ∨ (first = false ∧ W.length = N.1.length ∧ ∀ k ∈ presN N N.1.length, sl.getD (gtM (slotsM N N.1.length) k).toNat 0 = W.getD k.toNat 0)
section
variable {N : Nt}
theorem sim_val (hL : LineP N) {p : Nat} (hp : p < N.1.length) {W sl : List Int} {first : Bool} (hr : RelS N W sl first) (inp : List Int) {t s : Nat → Int} {M : Mp} (D : Int) (hM : ∀ k ∈ opsN (opAtN N p), t (gtM M k).toNat = s k.toNat) :
    valI (insA (slotsM N N.1.length) (opAtN N p) M D) t inp sl first = valO (opAtN N p) s W inp := by
  have hN := may_N hL.may
  have hk := hN.kids p hp
  have hrl := ins_rdL hk (slotsM N N.1.length) M D
  have hargs : ∀ j, argI (insA (slotsM N N.1.length) (opAtN N p) M D) t j = argF (opAtN N p) s j := fun j => by
    unfold argI argF
    rw [hrl, List.map_map]
    congr 1
    exact List.map_congr_left fun k hk => hM k hk
  have h1 : (insA (slotsM N N.1.length) (opAtN N p) M D).1 = (opAtN N p).1 := rfl
  have hn : (insA (slotsM N N.1.length) (opAtN N p) M D).2.2.2.2.2 = if (opAtN N p).1 = 21 then gtM (slotsM N N.1.length) (opAtN N p).2.1 else (opAtN N p).2.2.2.2 := rfl
  have hA : (insA (slotsM N N.1.length) (opAtN N p) M D).2.2.1 = ((opsN (opAtN N p)).map (gtM M)).getD 0 0 := rfl
  have hB : (insA (slotsM N N.1.length) (opAtN N p) M D).2.2.2.1 = ((opsN (opAtN N p)).map (gtM M)).getD 1 0 := rfl
  unfold valI valO
  rw [h1, hn, hA, hB, hargs, hargs, hargs]
  by_cases h3 : (opAtN N p).1 = 3
  · rw [if_pos h3, if_pos h3, if_neg (by omega)]
  rw [if_neg h3, if_neg h3]
  by_cases h12 : (opAtN N p).1 = 1 ∨ (opAtN N p).1 = 2
  · rw [if_pos h12, if_pos h12, if_neg (by omega)]
  rw [if_neg h12, if_neg h12]
  by_cases h21 : (opAtN N p).1 = 21
  · rw [if_pos h21, if_pos h21, if_neg (show ¬ (opAtN N p).1 = 19 by omega), if_pos h21]
    rcases hr with ⟨_, b, c⟩ | ⟨_, b, c⟩
    · rw [if_pos b, c]
    · rw [if_neg (by omega), c _ (pres_in N N.1.length p hp h21)]
  rw [if_neg h21, if_neg h21]
  by_cases h19 : (opAtN N p).1 = 19
  · have ho : opsN (opAtN N p) = [(opAtN N p).2.1, (opAtN N p).2.2.1] := by
      rw [opsN, if_neg h21, usedN, manyN, h19]; rfl
    have ha := hM (opAtN N p).2.1 (by rw [ho]; simp)
    have hb := hM (opAtN N p).2.2.1 (by rw [ho]; simp)
    rw [if_pos h19, if_pos h19, ho]
    show (if first = true then t (gtM M (opAtN N p).2.1).toNat else t (gtM M (opAtN N p).2.2.1).toNat, (0 : Int)) = _
    rw [ha, hb]
    rcases hr with ⟨a, b, c⟩ | ⟨a, b, c⟩
    · rw [a, if_pos rfl, if_pos b]
    · rw [a, if_neg (by decide), if_neg (by omega)]
  rw [if_neg h19, if_neg h19]
noncomputable def netF (N : Nt) (W inp : List Int) (p : Nat) : (Nat → Int) × Int := (List.range p).foldl (stepR N W inp) (fun _ => 0, 0)
theorem netF_succ (N : Nt) (W inp : List Int) (p : Nat) : netF N W inp (p + 1) = stepR N W inp (netF N W inp p) p := by
  unfold netF
  rw [List.range_succ, List.foldl_append]; rfl
theorem sim_fold (hL : LineP N) (told : List Int) {W sl : List Int} {first : Bool} (hr : RelS N W sl first) (inp : List Int) : ∀ p, p ≤ N.1.length →
    ∃ t, (allocA N (endP N told N.1.length) (slotsM N N.1.length) p).2.1.foldl (stepI sl inp first) (fun _ => 0, sl, 0) = (t, sl, (netF N W inp p).2) ∧ ∀ k, hsM (allocA N (endP N told N.1.length) (slotsM N N.1.length) p).2.2.1 k = true → t (gtM (allocA N (endP N told N.1.length) (slotsM N N.1.length) p).2.2.1 k).toNat = (netF N W inp p).1 k.toNat
  | 0, _ => ⟨fun _ => 0, rfl, fun k hk => absurd (show hsM [] k = true from hk) (by rw [hs_nil]; decide)⟩
  | p + 1, hp => by
    obtain ⟨t, ht, hk⟩ := sim_fold hL told hr inp p (by omega)
    have hhere := here_at (E := endP N told N.1.length) (S := slotsM N N.1.length) hL (told := told) (p := p) (by omega)
    have hv := sim_val hL (show p < N.1.length by omega) hr inp (t := t) (s := (netF N W inp p).1) (tkA N (endP N told N.1.length) (allocA N (endP N told N.1.length) (slotsM N N.1.length) p) p).2.2 (fun k hk1 => hk k (hhere k hk1))
    have hn := alloc_next (N := N) (E := endP N told N.1.length) (S := slotsM N N.1.length) p
    have htk := alloc_take (N := N) (E := endP N told N.1.length) (S := slotsM N N.1.length) p
    have hP := alloc_P (N := N) (E := endP N told N.1.length) (S := slotsM N N.1.length) p
    have hC : (allocA N (endP N told N.1.length) (slotsM N N.1.length) (p + 1)).2.1 = (allocA N (endP N told N.1.length) (slotsM N N.1.length) p).2.1 ++ [insA (slotsM N N.1.length) (opAtN N p) (allocA N (endP N told N.1.length) (slotsM N N.1.length) p).2.2.1 (tkA N (endP N told N.1.length) (allocA N (endP N told N.1.length) (slotsM N N.1.length) p) p).2.2] := rfl
    have h30 : (insA (slotsM N N.1.length) (opAtN N p) (allocA N (endP N told N.1.length) (slotsM N N.1.length) p).2.2.1 (tkA N (endP N told N.1.length) (allocA N (endP N told N.1.length) (slotsM N N.1.length) p) p).2.2).1 ≠ 30 := no30 ((may_N hL.may).kids p (by omega))
    have hD : (insA (slotsM N N.1.length) (opAtN N p) (allocA N (endP N told N.1.length) (slotsM N N.1.length) p).2.2.1 (tkA N (endP N told N.1.length) (allocA N (endP N told N.1.length) (slotsM N N.1.length) p) p).2.2).2.1 = (tkA N (endP N told N.1.length) (allocA N (endP N told N.1.length) (slotsM N N.1.length) p) p).2.2 := rfl
    rw [hC, List.foldl_append, ht, netF_succ]
    generalize insA (slotsM N N.1.length) (opAtN N p) (allocA N (endP N told N.1.length) (slotsM N N.1.length) p).2.2.1 (tkA N (endP N told N.1.length) (allocA N (endP N told N.1.length) (slotsM N N.1.length) p) p).2.2 = x at *
    refine ⟨fun q => if q = x.2.1.toNat then (valO (opAtN N p) (netF N W inp p).1 W inp).1 else t q, ?_, fun k hk1 => ?_⟩
    · rw [List.foldl_cons, List.foldl_nil, stepI, if_neg h30, hv]
      rfl
    · rw [hD]
      rcases hn k hk1 with ⟨a, b⟩ | ⟨a, b, c, d⟩
      · rw [b]
        exact (if_pos rfl).trans (if_pos (show k.toNat = p by omega)).symm
      · have g := hP.key k b
        rw [c]
        exact (if_neg (by omega)).trans ((hk k b).trans (if_neg (show ¬ k.toNat = p by omega)).symm)
theorem sim_store (S M : Mp) (P : List Int) (hP : ∀ k ∈ P, 0 ≤ k ∧ 0 ≤ gtM S k ∧ gtM S k < P.length) (hS : ∀ k, hsM S k = decide (k ∈ P)) (hinj : ∀ k k', hsM S k = true → hsM S k' = true → gtM S k = gtM S k' → k = k') (sl0 inp : List Int) (first : Bool) (t : Nat → Int) (e : Int) : ∀ (l : List Nat) (sl : List Int), l.Nodup → sl.length = P.length →
    ∃ sl', (storesM S M l).foldl (stepI sl0 inp first) (t, sl, e) = (t, sl', e) ∧ sl'.length = P.length ∧ ∀ k ∈ P, sl'.getD (gtM S k).toNat 0 = if k.toNat ∈ l then t (gtM M k).toNat else sl.getD (gtM S k).toNat 0
  | [], sl, _, hl => ⟨sl, rfl, hl, fun k hk => by simp⟩
  | i :: l, sl, hn, hl => by
    rw [List.nodup_cons] at hn
    rw [storesM_cons]
    by_cases hh : hsM S (i : Int) = true
    · rw [if_pos hh, List.foldl_cons]
      have hst : stepI sl0 inp first (t, sl, e) (30, 0, gtM M (i : Int), 0, 0, gtM S (i : Int)) = (t, setNth sl (gtM S (i : Int)).toNat (t (gtM M (i : Int)).toNat), e) := by
        rw [stepI, if_pos rfl]
      rw [hst]
      obtain ⟨sl', h1, h2, h3⟩ := sim_store S M P hP hS hinj sl0 inp first t e l (setNth sl (gtM S (i : Int)).toNat (t (gtM M (i : Int)).toNat)) hn.2 (by rw [setNth_set, List.length_set]; exact hl)
      refine ⟨sl', h1, h2, fun k hk => ?_⟩
      have g := hP k hk
      have hi : (i : Int) ∈ P := by rw [hS] at hh; exact of_decide_eq_true hh
      have gi := hP _ hi
      rw [h3 k hk]
      by_cases a : k.toNat ∈ l
      · rw [if_pos a, if_pos (List.mem_cons_of_mem _ a)]
      · rw [if_neg a, setNth_set]
        by_cases b : k.toNat = i
        · have hki : (i : Int) = k := by omega
          rw [if_pos (by rw [b]; exact List.mem_cons_self), hki, List.getD_eq_getElem?_getD, List.getElem?_set_self (by omega)]; rfl
        · have hne : (gtM S (i : Int)).toNat ≠ (gtM S k).toNat := fun q => b (by
            have := hinj k (i : Int) (by rw [hS]; exact dt hk) hh (by omega)
            omega)
          rw [if_neg (fun m => (List.mem_cons.1 m).elim b a), List.getD_eq_getElem?_getD, List.getElem?_set_ne hne, ← List.getD_eq_getElem?_getD]
    · rw [if_neg hh]
      obtain ⟨sl', h1, h2, h3⟩ := sim_store S M P hP hS hinj sl0 inp first t e l sl hn.2 hl
      refine ⟨sl', h1, h2, fun k hk => ?_⟩
      have g := hP k hk
      rw [h3 k hk]
      by_cases a : k.toNat ∈ l
      · rw [if_pos a, if_pos (List.mem_cons_of_mem _ a)]
      · rw [if_neg a, if_neg (fun m => (List.mem_cons.1 m).elim (fun b => hh (by rw [hS]; exact dt (by rw [show (i : Int) = k by omega]; exact hk))) a)]
theorem sim_inst (hL : LineP N) {told : List Int} (ht : toldB N.2.1.length told = true) {W sl : List Int} {first : Bool} (hr : RelS N W sl first) (hsl : sl.length = (presN N N.1.length).length) (inp : List Int) :
    (instI (codeN N told) sl inp first).2.2 = (netF N W inp N.1.length).2 ∧ (∀ k ∈ rootsM N told, (instI (codeN N told) sl inp first).1 (gtM (alN N told).2.2.1 k).toNat = (netF N W inp N.1.length).1 k.toNat) ∧ (instI (codeN N told) sl inp first).2.1.length = (presN N N.1.length).length ∧ RelS N (rowF N.1.length (netF N W inp N.1.length).1) (instI (codeN N told) sl inp first).2.1 false := by
  obtain ⟨t, h1, h2⟩ := sim_fold hL told hr inp N.1.length (Nat.le_refl _)
  obtain ⟨sl', h3, h4, h5⟩ := sim_store (slotsM N N.1.length) (alN N told).2.2.1 (presN N N.1.length) (fun k hk => by
    have g := slots_get N N.1.length k hk
    exact ⟨(pres_mem hL _ (Nat.le_refl _) k hk).1, g.1, g.2.1⟩) (slots_has N N.1.length) (slots_inj N) sl inp first t (netF N W inp N.1.length).2 (List.range N.1.length) sl List.nodup_range hsl
  have e : instI (codeN N told) sl inp first = (t, sl', (netF N W inp N.1.length).2) := by
    show ((alN N told).2.1 ++ _).foldl (stepI sl inp first) (fun _ => 0, sl, 0) = _
    rw [List.foldl_append]
    rw [show (alN N told).2.1.foldl (stepI sl inp first) (fun _ => 0, sl, 0) = (t, sl, (netF N W inp N.1.length).2) from h1]
    exact h3
  rw [e]
  refine ⟨rfl, fun k hk => h2 k (kept_at hL told (roots_in (may_N hL.may) ht k hk) (Or.inr hk)), h4, Or.inr ⟨rfl, rowF_len _ _, fun k hk => ?_⟩⟩
  have g := pres_mem hL _ (Nat.le_refl _) k hk
  rw [h5 k hk, if_pos (List.mem_range.2 (by omega)), rowF_getD _ (by omega)]
  exact h2 k (kept_at hL told g (Or.inl hk))
/-- What is told of a row. -/
def projT (told : List Int) (row : List Int) : List Int := told.map fun t => row.getD t.toNat 0
theorem sim_run (hL : LineP N) {told : List Int} (ht : toldB N.2.1.length told = true) : ∀ (ins out : List (List Int)) (W sl : List Int) (first : Bool), RelS N W sl first → sl.length = (presN N N.1.length).length →
    runI (codeN N told) ins (out.map (projT told)) sl first = ((runL N (List.range N.1.length) ins out W).1.map (projT told), (runL N (List.range N.1.length) ins out W).2)
  | [], out, W, sl, first, hr, hl => rfl
  | inp :: r, out, W, sl, first, hr, hl => by
    obtain ⟨a, b, c, d⟩ := sim_inst hL ht hr hl inp
    have hnf : (List.range N.1.length).foldl (stepR N W inp) (fun _ => 0, 0) = netF N W inp N.1.length := rfl
    rw [runI, runL, hnf, a, show (codeN N told).2.2.2.2 = N.2.2 from rfl]
    by_cases hf : frameB N.2.2 inp = true
    · rw [if_pos hf, if_pos hf]
      by_cases he : (netF N W inp N.1.length).2 = 0
      · rw [if_pos he, if_pos he]
        have hrow : ((codeN N told).2.2.2.1.map fun k => (instI (codeN N told) sl inp first).1 k.toNat) = projT told (N.2.1.map fun k => (netF N W inp N.1.length).1 k.toNat) := by
          show ((rootsM N told).map (gtM (alN N told).2.2.1)).map _ = _
          rw [List.map_map, rootsM, List.map_map, projT]
          refine List.map_congr_left fun q hq => ?_
          have g := told_all ht q hq
          have hl : q.toNat < N.2.1.length := by omega
          show (instI (codeN N told) sl inp first).1 (gtM (alN N told).2.2.1 (N.2.1.getD q.toNat 0)).toNat = _
          rw [b _ (List.mem_map.2 ⟨q, hq, rfl⟩)]
          rw [List.getD_eq_getElem?_getD, List.getD_eq_getElem?_getD, List.getElem?_map, List.getElem?_eq_getElem hl]
          rfl
        rw [hrow]
        have ih := sim_run hL ht r (out ++ [N.2.1.map fun k => (netF N W inp N.1.length).1 k.toNat]) (rowF N.1.length (netF N W inp N.1.length).1) (instI (codeN N told) sl inp first).2.1 false d c
        rw [List.map_append, List.map_singleton] at ih
        exact ih
      · rw [if_neg he, if_neg he]
    · rw [if_neg hf, if_neg hf]
end

/-! Code told anew; what a net's code tells. -/
theorem told16_loop {c : Cd} (hl : c.1.length ≤ 100000) (a b : Int) (o i_ : List Int) : ∀ (suf pre : List Ic), c.1 = pre ++ suf → k204 T.rb c a b o i_ pre (pre.length : Nat) = some (c, a, b, o, i_, c.1)
  | [], pre, he => ob204 (by
    rw [List.append_nil] at he
    simp only [b204, he, lt_self, cond_false])
  | k :: suf, pre, he => ob204 (by
    have hll : c.1.length = pre.length + (suf.length + 1) := by rw [he]; simp
    have ih := told16_loop hl a b o i_ suf (pre ++ [k]) (by simp [he])
    have hlt : decide (((pre.length : Nat) : Int) < ((c.1.length : Nat) : Int)) = true := dt (by omega)
    have hin : inb ((pre.length : Nat) : Int) c.1.length = true := inb_t (by omega) (by omega)
    have hnt : nth c.1 ((pre.length : Nat) : Int).toNat = some k := by rw [he]; exact nth_mid pre k suf
    simp only [b204, hlt, hin, hnt, cond_true, Option.bind_some, ble_most (a := pre.length + 1) (by omega), Bool.and_true, next_mid pre k (by omega), ih])
theorem told16_eq {c : Cd} (hl : c.1.length ≤ 100000) : c49 T.rf c = some c := or49 (by
  have h := told16_loop hl c.2.1 c.2.2.1 c.2.2.2.1 c.2.2.2.2 c.1 [] rfl
  rw [List.length_nil, show ((0 : Nat) : Int) = (0 : Int) from rfl] at h
  simp only [r49, h, Option.bind_some])
theorem code_len (N : Nt) (told : List Int) : (codeN N told).1.length ≤ N.1.length + (presN N N.1.length).length := by
  have hC := alloc_C (N := N) (endP N told N.1.length) (slotsM N N.1.length) N.1.length
  have hstl := stores_len (slotsM N N.1.length) (alN N told).2.2.1 (presN N N.1.length) (slots_has N N.1.length) N.1.length
  have e1 : (codeN N told).1.length = (alN N told).2.1.length + (storesM (slotsM N N.1.length) (alN N told).2.2.1 (List.range N.1.length)).length := List.length_append ..
  have e2 : (alN N told).2.1.length = N.1.length := hC
  omega
theorem codeRun_eq {n : Nt} (hc : chkN n = 0) (h1 : n.1.length ≤ 300) (h2 : n.2.1.length ≤ 60) (h3 : n.2.2.length ≤ 60) {told : List Int} (h4 : told.length ≤ 60) (ht : toldB n.2.1.length told = true) {ins : List (List Int)} (hi : ins.length ≤ 20) :
    (c49 T.rf (codeN (sortN n) told)).bind (fun y => c50 T.rf y ins) = some ((runL n (gN n) ins [] []).1.map (projT told), (runL n (gN n) ins [] []).2) := by
  have hL := sort_lineP hc
  have hlen := sort_len hc
  obtain ⟨h5, h6⟩ := sort_small hc
  have ht' : toldB (sortN n).2.1.length told = true := by rw [h5]; exact ht
  have hcl := code_len (sortN n) told
  have hpl := pres_len (sortN n) (sortN n).1.length
  have hsl := slots_len (sortN n) (sortN n).1.length
  have ho : (codeN (sortN n) told).2.2.2.1.length = told.length := by
    show ((rootsM (sortN n) told).map _).length = _
    rw [List.length_map, rootsM, List.length_map]
  have hin : (codeN (sortN n) told).2.2.2.2.length = n.2.2.length := congrArg List.length (show (codeN (sortN n) told).2.2.2.2 = n.2.2 from rfl)
  rw [told16_eq (by omega), Option.bind_some, Run16_eq (code_chk hL (by omega) ht') (by omega) (by omega) (by omega)]
  have hs := sim_run hL ht' ins [] [] (List.replicate (codeN (sortN n) told).2.2.1.toNat 0) true (Or.inl ⟨rfl, rfl, fun j => by
    rw [List.getD_eq_getElem?_getD, List.getElem?_replicate]; split <;> rfl⟩) (by
    rw [List.length_replicate]
    show ((((slotsM (sortN n) (sortN n).1.length).length : Nat) : Int)).toNat = _
    omega)
  rw [List.map_nil] at hs
  rw [hs, hlen, run_turn hc ins [] [] [] (Or.inl ⟨rfl, rfl⟩)]

/-! The laws. -/
theorem same16_err (n : Nt) (told : List Int) {f : Int} (hf : f ≠ 0) (i : Nat) (hi : i ≤ told.length) : k241 T.rb n told f (i : Nat) = some (n, f) := ob241 (by
  simp only [b241, bf hf, cond_false]
  cases decide ((i : Int) < ((told.length : Nat) : Int)) <;> rfl)
theorem same16_loop (n : Nt) : ∀ (suf pre : List Int), pre.length + suf.length ≤ 1000 → k241 T.rb n (pre ++ suf) 0 (pre.length : Nat) = some (n, if toldB n.2.1.length suf = true then 0 else 1)
  | [], pre, h => ob241 (by simp only [b241, lt_end, lt_self, List.append_nil, cond_false]; rfl)
  | k :: suf, pre, h => ob241 (by
    simp only [List.length_cons] at h
    have ih := same16_loop n suf (pre ++ [k]) (by simp; omega)
    have er := same16_err n (pre ++ k :: suf) (f := 1) (by decide) (pre ++ [k]).length (by simp)
    simp only [List.append_assoc, List.singleton_append] at ih
    have hb : toldB n.2.1.length (k :: suf) = (decide (0 ≤ k ∧ k < n.2.1.length) && toldB n.2.1.length suf) := rfl
    rw [hb]
    simp only [b241, lt_mid, inb_mid, nth_mid, cond_true, Option.bind_some, next_mid pre k (by omega), bt rfl]
    by_cases h0 : k < 0
    · rw [dt h0, cond_true, er, df (by omega)]; rfl
    rw [df h0, cond_false]
    by_cases h1 : k ≥ ((n.2.1.length : Nat) : Int)
    · rw [dt h1, cond_true, er, df (by omega)]; rfl
    rw [df h1, cond_false, ih, dt (by omega), Bool.true_and])
theorem same16_all (n : Nt) {told : List Int} (h : told.length ≤ 60) (f : Int) : k241 T.rb n told f 0 = some (n, if f = 0 then (if toldB n.2.1.length told = true then 0 else 1) else f) := by
  by_cases hf : f = 0
  · subst hf
    have := same16_loop n told [] (by simp; omega)
    rw [List.nil_append, List.length_nil, show ((0 : Nat) : Int) = (0 : Int) from rfl] at this
    rw [if_pos rfl]; exact this
  · have := same16_err n told hf 0 (Nat.zero_le _)
    rw [if_neg hf]; exact this
theorem col_loop {a b : List (List Int)} {i : Nat} {row : List Int} {told : List Int} (ha : nth a i = some row) (hb : nth b i = some (projT told row)) (hal : i < a.length) (hbl : i < b.length) (hl : told.length ≤ 1000) (hr : ∀ t ∈ told, 0 ≤ t ∧ t < row.length) : ∀ (suf pre : List Int), told = pre ++ suf → k257 T.rb a b told (i : Nat) (pre.length : Nat) = some (.inr (a, b))
  | [], pre, he => ob257 (by
    rw [List.append_nil] at he
    simp only [b257, he, lt_self, cond_false])
  | t :: suf, pre, he => ob257 (by
    have hll : told.length = pre.length + (suf.length + 1) := by rw [he]; simp
    have ih := col_loop ha hb hal hbl hl hr suf (pre ++ [t]) (by simp [he])
    have hlt : decide (((pre.length : Nat) : Int) < ((told.length : Nat) : Int)) = true := dt (by omega)
    have hin : inb ((pre.length : Nat) : Int) told.length = true := inb_t (by omega) (by omega)
    have hnt : nth told ((pre.length : Nat) : Int).toNat = some t := by rw [he]; exact nth_mid pre t suf
    have ht := hr t (by rw [he]; simp)
    have hpl : (projT told row).length = told.length := List.length_map ..
    have hpn : nth (projT told row) ((pre.length : Nat) : Int).toNat = some (row.getD t.toNat 0) := by
      have e : projT told row = pre.map (fun t => row.getD t.toNat 0) ++ row.getD t.toNat 0 :: suf.map (fun t => row.getD t.toNat 0) := by
        rw [projT, he, List.map_append, List.map_cons]
      rw [e, nth_getElem?, Int.toNat_natCast, List.getElem?_append_right (by simp), List.length_map, Nat.sub_self]; rfl
    have hin2 : inb ((pre.length : Nat) : Int) (projT told row).length = true := by rw [hpl]; exact hin
    have hrn : nth row t.toNat = some (row.getD t.toNat 0) := getD_nth0 (by omega)
    have hri : inb t row.length = true := inb_t ht.1 ht.2
    have hai : inb ((i : Nat) : Int) a.length = true := inb_t (by omega) (by omega)
    have hbi : inb ((i : Nat) : Int) b.length = true := inb_t (by omega) (by omega)
    simp only [b257, hlt, hin, hnt, cond_true, Option.bind_some, hai, hbi, Int.toNat_natCast, ha, hb, hin2]
    rw [Int.toNat_natCast] at hpn hnt
    simp only [hpn, hnt, Option.bind_some, cond_true, hri, hrn, nbt rfl, cond_false, next_mid pre t (by omega)]
    exact ih)
theorem rows16_loop {told : List Int} (hl : told.length ≤ 1000) {m : Nat} (ht : toldB m told = true) : ∀ (suf pre : List (List Int)), pre.length + suf.length ≤ 1000 → (∀ r ∈ suf, r.length = m) → k256 T.rb (pre ++ suf) ((pre ++ suf).map (projT told)) told (pre.length : Nat) = some (.inr (pre ++ suf, (pre ++ suf).map (projT told)))
  | [], pre, h, hm => ob256 (by simp only [b256, lt_end, lt_self, List.append_nil, cond_false])
  | row :: suf, pre, h, hm => ob256 (by
    simp only [List.length_cons] at h
    have ih := rows16_loop hl ht suf (pre ++ [row]) (by simp; omega) (fun r hr => hm r (List.mem_cons_of_mem _ hr))
    simp only [List.append_assoc, List.singleton_append] at ih
    have hrow := hm row List.mem_cons_self
    have hb : nth ((pre ++ row :: suf).map (projT told)) pre.length = some (projT told row) := by
      rw [nth_getElem?, List.getElem?_map, List.getElem?_append_right (Nat.le_refl _), Nat.sub_self]; rfl
    have ha : nth (pre ++ row :: suf) pre.length = some row := by have := nth_mid pre row suf; rwa [Int.toNat_natCast] at this
    have hbl : pre.length < ((pre ++ row :: suf).map (projT told)).length := by simp
    have hc := col_loop (a := pre ++ row :: suf) (b := (pre ++ row :: suf).map (projT told)) (told := told) ha hb (by simp) hbl hl (fun t ht1 => by have := told_all ht t ht1; omega) told [] rfl
    rw [List.length_nil, show ((0 : Nat) : Int) = (0 : Int) from rfl] at hc
    have hpl : (projT told row).length = told.length := List.length_map ..
    simp only [b256, lt_mid, cond_true, inb_nat, dt hbl, Int.toNat_natCast, hb, Option.bind_some, hpl, nbt rfl, cond_false, hc, next_mid pre row (by omega)]
    exact ih)
theorem CodeSame_eq (n : Nt) (told : List Int) (ins : List (List Int)) : c75 T.rf n told ins = some true := or75 (by
  obtain ⟨b, hb, hbl⟩ := Small12_eq ins
  simp only [r75, live16_eq, Option.bind_some, SmallN_eq, hb]
  cases hs : smallN n
  · rfl
  obtain ⟨h1, h2, h3⟩ := small_N hs
  rw [Bool.not_true, cond_false]
  cases b with
  | false => rfl
  | true =>
    have hil := hbl rfl
    rw [Bool.not_true, cond_false]
    by_cases h60 : ((told.length : Nat) : Int) > 60
    · rw [dt h60]; rfl
    rw [df h60, cond_false, Own_eq (by omega), Option.bind_some, Make_eq h1 h2 h3 (told := told) (by omega), Option.bind_some, refChk_eq (by omega) (by omega), Option.bind_some, same16_all n (told := told) (by omega), Option.bind_some]
    unfold makeN
    by_cases hc : chkN n = 0
    case neg =>
      rw [if_neg hc, if_neg hc, nbt rfl, cond_false, nbf hc, cond_true]; rfl
    rw [if_pos hc, if_pos hc]
    cases ht : toldB n.2.1.length told
    · rfl
    · rw [if_pos rfl, if_pos rfl]
      have hrun := codeRun_eq hc h1 h2 h3 (told := told) (by omega) ht (ins := ins) (by omega)
      obtain ⟨y, hy⟩ : ∃ y, c49 T.rf (codeN (sortN n) told) = some y := by
        cases hq : c49 T.rf (codeN (sortN n) told) with
        | none => rw [hq] at hrun; exact absurd hrun (by simp)
        | some y => exact ⟨y, rfl⟩
      rw [hy, Option.bind_some] at hrun
      obtain ⟨r1, r2⟩ := runL_len n (gN n) ins [] [] (fun x hx => by simp at hx)
      rw [List.length_nil] at r1
      show (bif (0 : Int) != 0 then _ else bif (0 : Int) != 0 then _ else (c49 T.rf (codeN (sortN n) told)).bind _) = _
      rw [nbt rfl, cond_false, cond_false, hy, Option.bind_some, Run_eq (n := n) (by omega) (by omega) (by omega) (by omega), if_pos hc, Option.bind_some, hrun, Option.bind_some]
      have hrw := rows16_loop (told := told) (by omega) ht (runL n (gN n) ins [] []).1 [] (by simp; omega) r2
      rw [List.nil_append, List.length_nil, show ((0 : Nat) : Int) = (0 : Int) from rfl] at hrw
      show (bif (runL n (gN n) ins [] []).2 != (runL n (gN n) ins [] []).2 then _ else bif (((runL n (gN n) ins [] []).1.length : Nat) : Int) != ((((runL n (gN n) ins [] []).1.map (projT told)).length : Nat) : Int) then _ else (c73 T.rf n.2.2 n.2.2).bind _) = _
      rw [nbt rfl, cond_false, List.length_map, nbt rfl, cond_false, Ints_self (a := n.2.2) (by omega), Option.bind_some, Bool.not_true, cond_false, hrw]
      rfl)
theorem lawCodeSame : LawOk T 75 := fun d _ => ⟨true, CodeSame_eq d.1 d.2.1 d.2.2, rfl, rfl, rfl⟩

theorem told16b_loop {told : List Int} : ∀ (suf pre : List (List Int)), pre.length + suf.length ≤ 1000 → k259 T.rb ((pre ++ suf).map (projT told)) ((pre ++ suf).map (projT [])) told (pre.length : Nat) = some (.inr ((pre ++ suf).map (projT told), (pre ++ suf).map (projT [])))
  | [], pre, h => ob259 (by simp only [b259, List.append_nil, List.length_map, lt_self, cond_false])
  | row :: suf, pre, h => ob259 (by
    simp only [List.length_cons] at h
    have ih := told16b_loop (told := told) suf (pre ++ [row]) (by simp; omega)
    simp only [List.append_assoc, List.singleton_append] at ih
    have hp : ∀ q : List Int, nth ((pre ++ row :: suf).map (projT q)) pre.length = some (projT q row) := fun q => by
      rw [nth_getElem?, List.getElem?_map, List.getElem?_append_right (Nat.le_refl _), Nat.sub_self]; rfl
    have hpl : ∀ q : List Int, (projT q row).length = q.length := fun q => List.length_map ..
    have hlt : pre.length < (pre ++ row :: suf).length := by simp
    simp only [b259, List.length_map, lt_mid, cond_true, inb_nat, dt hlt, Int.toNat_natCast, hp, Option.bind_some, hpl, next_mid pre row (by omega)]
    rw [nbt (show (((([] : List Int).length : Nat)) : Int) = 0 from rfl), cond_false, nbt rfl, cond_false]
    exact ih)
theorem CodeTold_eq (n : Nt) (told : List Int) (ins : List (List Int)) : c89 T.rf n told ins = some true := or89 (by
  obtain ⟨b, hb, hbl⟩ := Small12_eq ins
  simp only [r89, live16_eq, Option.bind_some, SmallN_eq, hb]
  cases hs : smallN n
  · rfl
  obtain ⟨h1, h2, h3⟩ := small_N hs
  rw [Bool.not_true, cond_false]
  cases b with
  | false => rfl
  | true =>
    have hil := hbl rfl
    rw [Bool.not_true, cond_false]
    by_cases h60 : ((told.length : Nat) : Int) > 60
    · rw [dt h60]; rfl
    rw [df h60, cond_false, Own_eq (by omega), Option.bind_some, Make_eq h1 h2 h3 (told := told) (by omega), Option.bind_some, Option.bind_some, Make_eq h1 h2 h3 (told := []) (by simp), Option.bind_some]
    unfold makeN
    by_cases hc : chkN n = 0
    case neg =>
      rw [if_neg hc, if_neg hc, nbf hc, cond_true, bf hc, cond_false, bt rfl, cond_true]
    rw [if_pos hc, if_pos hc]
    have ht0 : toldB n.2.1.length [] = true := rfl
    rw [if_pos ht0]
    cases ht : toldB n.2.1.length told
    · rfl
    · rw [if_pos rfl]
      have ex : ∀ q : List Int, q.length ≤ 60 → toldB n.2.1.length q = true → ∃ y, c49 T.rf (codeN (sortN n) q) = some y ∧ c50 T.rf y ins = some ((runL n (gN n) ins [] []).1.map (projT q), (runL n (gN n) ins [] []).2) := fun q hq1 hq2 => by
        have hrun := codeRun_eq hc h1 h2 h3 (told := q) hq1 hq2 (ins := ins) (by omega)
        cases hq : c49 T.rf (codeN (sortN n) q) with
        | none => rw [hq] at hrun; exact absurd hrun (by simp)
        | some y => rw [hq, Option.bind_some] at hrun; exact ⟨y, rfl, hrun⟩
      obtain ⟨y, hy, hyr⟩ := ex told (by omega) ht
      obtain ⟨z, hz, hzr⟩ := ex [] (by simp) ht0
      obtain ⟨r1, r2⟩ := runL_len n (gN n) ins [] [] (fun x hx => by simp at hx)
      rw [List.length_nil] at r1
      show (bif (0 : Int) != 0 then _ else bif (0 : Int) != 0 then _ else (c49 T.rf (codeN (sortN n) told)).bind _) = _
      rw [nbt rfl, cond_false, cond_false, hy, Option.bind_some, hyr, Option.bind_some]
      show ((c49 T.rf (codeN (sortN n) [])).bind _) = _
      rw [hz, Option.bind_some, hzr, Option.bind_some]
      have hrw := told16b_loop (told := told) (runL n (gN n) ins [] []).1 [] (by simp; omega)
      rw [List.nil_append, List.length_nil, show ((0 : Nat) : Int) = (0 : Int) from rfl] at hrw
      show (bif (runL n (gN n) ins [] []).2 != (runL n (gN n) ins [] []).2 then _ else bif ((((runL n (gN n) ins [] []).1.map (projT told)).length : Nat) : Int) != ((((runL n (gN n) ins [] []).1.map (projT [])).length : Nat) : Int) then _ else _) = _
      rw [nbt rfl, cond_false, List.length_map, List.length_map, nbt rfl, cond_false, hrw]
      rfl)
theorem lawCodeTold : LawOk T 89 := fun d _ => ⟨true, CodeTold_eq d.1 d.2.1 d.2.2, rfl, rfl, rfl⟩

/-! How many there are. -/
def cntN (n : Nt) (l : List Nat) : Nat := (l.filter fun (i : Nat) => decide ((opAtN n i).1 = 21)).length
theorem cnt_loop {n : Nt} (hl : n.1.length ≤ 1000) : ∀ (m p : Nat) (c : Nat), p + m = n.1.length → c + m ≤ 1000 → k258 T.rb n (c : Nat) (p : Nat) = some (n, ((c + cntN n (List.range' p m) : Nat) : Int))
  | 0, p, c, h, hc => ob258 (by
    have : p = n.1.length := by omega
    subst this
    simp only [b258, lt_self, cond_false]; rfl)
  | m + 1, p, c, h, hc => ob258 (by
    have hp : p < n.1.length := by omega
    simp only [b258, dt (show ((p : Nat) : Int) < ((n.1.length : Nat) : Int) by omega), cond_true, inb_nat, dt hp, Int.toNat_natCast, opAtN_nth hp, Option.bind_some, wr_succ (show p < 4611686018427387904 by omega), wr_succ (show c < 4611686018427387904 by omega)]
    rw [List.range'_succ, cntN, List.filter_cons]
    by_cases h21 : (opAtN n p).1 = 21
    · rw [bt h21, cond_true, cnt_loop hl m (p + 1) (c + 1) (by omega) (by omega), if_pos (dt h21), List.length_cons, cntN]
      congr 2; omega
    · rw [bf h21, cond_false, cnt_loop hl m (p + 1) c (by omega) (by omega), if_neg (by rw [df h21]; decide), cntN])
theorem pres_cnt (N : Nt) : ∀ p, (presN N p).length ≤ cntN N (List.range p)
  | 0 => Nat.le_refl _
  | p + 1 => by
    have ih := pres_cnt N p
    rw [presN, List.range_succ, cntN, List.filter_append, List.length_append]
    unfold cntN at ih
    by_cases h : (opAtN N p).1 = 21 ∧ (opAtN N p).2.1 ∉ presN N p
    · rw [if_pos h, List.length_append, List.length_singleton, List.filter_cons, if_pos (dt h.1)]
      simp only [List.length_cons]; omega
    · rw [if_neg h]; omega
theorem cnt_sort {n : Nt} (hc : chkN n = 0) : cntN (sortN n) (List.range n.1.length) ≤ cntN n (List.range n.1.length) := by
  unfold cntN
  have := filter_le ((List.range n.1.length).filter fun (i : Nat) => decide ((opAtN n i).1 = 21)) (((List.range n.1.length).filter fun (i : Nat) => decide ((opAtN (sortN n) i).1 = 21)).map fun (i : Nat) => (gN n).getD i 0) (by
    rw [List.nodup_iff_pairwise_ne, List.pairwise_map]
    refine List.Pairwise.imp_of_mem (fun {a b} ha hb (hab : a ≠ b) e => hab ?_) (List.nodup_range.filter _)
    have ha' := List.mem_range.1 (List.mem_filter.1 ha).1
    have hb' := List.mem_range.1 (List.mem_filter.1 hb).1
    rw [← idx_at hc ha', ← idx_at hc hb', e]) (fun x hx => by
    obtain ⟨i, hi, rfl⟩ := List.mem_map.1 hx
    have h1 := List.mem_range.1 (List.mem_filter.1 hi).1
    have h2 := of_decide_eq_true (List.mem_filter.1 hi).2
    rw [sort_op hc h1] at h2
    exact List.mem_filter.2 ⟨List.mem_range.2 (gN_lt hc h1), dt h2⟩)
  rwa [List.length_map] at this
theorem CodeSizes_eq (n : Nt) (told : List Int) : c88 T.rf n told = some true := or88 (by
  simp only [r88, live16_eq, Option.bind_some, SmallN_eq]
  cases hs : smallN n
  · rfl
  obtain ⟨h1, h2, h3⟩ := small_N hs
  rw [Bool.not_true, cond_false]
  by_cases h60 : ((told.length : Nat) : Int) > 60
  · rw [dt h60]; rfl
  rw [df h60, cond_false, Own_eq (by omega), Option.bind_some, Make_eq h1 h2 h3 (told := told) (by omega), Option.bind_some]
  unfold makeN
  by_cases hc : chkN n = 0
  case neg =>
    rw [if_neg hc, nbf hc]; rfl
  rw [if_pos hc]
  cases ht : toldB n.2.1.length told
  · rfl
  rw [if_pos rfl]
  have hL := sort_lineP hc
  have hlen := sort_len hc
  obtain ⟨h5, h6⟩ := sort_small hc
  have ht' : toldB (sortN n).2.1.length told = true := by rw [h5]; exact ht
  have hcl := code_len (sortN n) told
  have hpl := pres_cnt (sortN n) (sortN n).1.length
  have hcs := cnt_sort hc
  have hsl := slots_len (sortN n) (sortN n).1.length
  have hR := alloc_R (N := sortN n) (endP (sortN n) told (sortN n).1.length) (slotsM (sortN n) (sortN n).1.length) (sortN n).1.length
  have ho : (codeN (sortN n) told).2.2.2.1.length = told.length := by
    show ((rootsM (sortN n) told).map _).length = _
    rw [List.length_map, rootsM, List.length_map]
  have hin : (codeN (sortN n) told).2.2.2.2.length = n.2.2.length := congrArg List.length (show (codeN (sortN n) told).2.2.2.2 = n.2.2 from rfl)
  have e3 : (codeN (sortN n) told).2.1 = (allocA (sortN n) (endP (sortN n) told (sortN n).1.length) (slotsM (sortN n) (sortN n).1.length) (sortN n).1.length).1 := rfl
  have e4 : (codeN (sortN n) told).2.2.1 = (((slotsM (sortN n) (sortN n).1.length).length : Nat) : Int) := rfl
  have hz := code_chk hL (by omega) ht'
  have hcn := cnt_loop (n := n) (by omega) n.1.length 0 0 (by omega) (by omega)
  rw [show ((0 : Nat) : Int) = (0 : Int) from rfl, Nat.zero_add, ← List.range_eq_range'] at hcn
  have hcle : cntN n (List.range n.1.length) ≤ n.1.length := by
    have := List.length_filter_le (fun (i : Nat) => decide ((opAtN n i).1 = 21)) (List.range n.1.length)
    rwa [List.length_range] at this
  rw [hlen] at *
  show (bif (0 : Int) != 0 then _ else (k258 T.rb n 0 0).bind _) = _
  rw [nbt rfl, cond_false, hcn, Option.bind_some]
  show ((c67 T.rf (codeN (sortN n) told)).bind _) = _
  rw [CheckC_eq (c := codeN (sortN n) told) (by omega) (by omega), Option.bind_some, hz, bt rfl, cond_true]
  show (bif decide ((((codeN (sortN n) told).1.length : Nat) : Int) ≤ IntKind.i64.wrap (((n.1.length : Nat) : Int) + ((cntN n (List.range n.1.length) : Nat) : Int))) then bif decide ((codeN (sortN n) told).2.1 ≤ ((n.1.length : Nat) : Int)) then bif decide ((codeN (sortN n) told).2.2.1 ≤ ((cntN n (List.range n.1.length) : Nat) : Int)) then bif (((codeN (sortN n) told).2.2.2.1.length : Nat) : Int) == ((told.length : Nat) : Int) then some true else some false else some false else some false else some false) = _
  rw [wr (by omega), dt (by omega), cond_true, dt (by omega), cond_true, dt (by omega), cond_true, ho, bt rfl]
  rfl)
theorem lawCodeSizes : LawOk T 88 := fun d _ => ⟨true, CodeSizes_eq d.1 d.2, rfl, rfl, rfl⟩

end Go.Proofs.Ytanomapnincmoaa.R
