/-
  OUR OWN: the law TypesCheck comes to true.
-/
import Derived.Test.YtomofgclaiaikaaGreatTypB
import Derived.Test.YtomofgclaiaikaaGreatProgT
import Derived.Test.YtomofgclaiaikaaGreatResOk
namespace Go.Proofs.YtomofgclaiaikaaGreat.R
open Go Go.Bm Go.Proofs
set_option linter.unusedVariables false
set_option linter.unusedSimpArgs false
set_option maxRecDepth 4000

/-! ### What is asked, in plain words -/
def orE (v w : Int) : Int := if v ≠ 0 then v else w
theorem orE_z {v : Int} (w : Int) (h : v = 0) : orE v w = w := by rw [orE, if_neg (fun hh => hh h)]
theorem orE_n {v : Int} (w : Int) (h : v ≠ 0) : orE v w = v := by rw [orE, if_pos h]
def wantT (S : List Pm) (U : List Un) (t : Int) (e : List Nd) : Int := orE (ofTy e S U).2 (if (ofTy e S U).1 ≠ t then 10 else 0)
def wantL (S : List Pm) (U : List Un) (t : Int) : List (List Nd) → Int
  | [] => 0
  | e :: r => orE (wantT S U t e) (wantL S U t r)
def itemW (S : List Pm) (x : It) : Int :=
  if x.1 = 3 then wantT S [] x.2.2.1 x.2.2.2.1 else if x.1 = 1 ∨ x.1 = 2 then wantT S [] 1 x.2.2.2.1 else if x.1 = 4 then orE (wantT S [] 1 x.2.2.2.1) (wantT S [] 1 x.2.2.2.2.1) else 0
def itemG (S : List Pm) (x : It) : List Pm := if x.1 = 3 then S ++ [(x.2.1, x.2.2.1)] else S
def itemsW : List It → List Pm → Int
  | [], _ => 0
  | x :: r, S => orE (itemW S x) (itemsW r (itemG S x))
def streamsU (u : Un) : List Pm := bif !u.1 then (u.2.2.1 ++ [(u.2.2.2.1, u.2.2.2.2.1)]) ++ u.2.2.2.2.2.1 else u.2.2.1
def eqW (S : List Pm) (U : List Un) (q : List UInt8 × List Nd) : Int := match findX (isP q.1) S with
  | none => 8
  | some p => wantT S U p.2 q.2
def eqsW (S : List Pm) (U : List Un) : List (List UInt8 × List Nd) → Int
  | [] => 0
  | q :: r => orE (eqW S U q) (eqsW S U r)
def unitW (pre : List Un) (u : Un) : Int := orE (itemsW u.2.2.2.2.2.2.2 (streamsU u)) (eqsW (streamsU u) pre u.2.2.2.2.2.2.1)
def checkW : List Un → List Un → Int × Int
  | [], _ => (0, 0)
  | u :: r, pre => if unitW pre u = 0 then checkW r (pre ++ [u]) else (unitW pre u, (pre.length : Nat))
theorem checkW_z {u : Un} (r pre : List Un) (h : unitW pre u = 0) : checkW (u :: r) pre = checkW r (pre ++ [u]) := by rw [checkW, if_pos h]
theorem checkW_n {u : Un} (r pre : List Un) (h : unitW pre u ≠ 0) : checkW (u :: r) pre = (unitW pre u, ((pre.length : Nat) : Int)) := by rw [checkW, if_neg h]
theorem checkW_zero : ∀ (l pre : List Un), (checkW l pre).1 = 0 → checkW l pre = (0, 0)
  | [], pre, _ => rfl
  | u :: r, pre, h => by
    by_cases hw : unitW pre u = 0
    · rw [checkW_z _ _ hw] at h ⊢; exact checkW_zero r _ h
    · rw [checkW_n _ _ hw] at h; exact absurd h hw

/-- What ends a loop: a fault, or nothing. -/
def endW {α β : Type} (v : Int) (a : α) (b : β) : α ⊕ β := if v = 0 then .inr b else .inl a
theorem endW_z {α β : Type} {v : Int} (a : α) (b : β) (h : v = 0) : endW v a b = .inr b := by rw [endW, if_pos h]
theorem endW_n {α β : Type} {v : Int} (a : α) (b : β) (h : v ≠ 0) : endW v a b = .inl a := by rw [endW, if_neg h]

/-! ### The program's -/
theorem want_loop {S : List Pm} {U : List Un} (hE : EnvOk S U) (t : Int) : ∀ (suf pre : List (List Nd)), (∀ e ∈ suf, e.length ≤ 1000000) → pre.length + suf.length ≤ 1000 →
    k99 T.rb S U t (pre ++ suf) ((pre ++ suf).length : Nat) (pre.length : Nat) = some (endW (wantL S U t suf) (S, U, wantL S U t suf) (S, U))
  | [], pre, h, hl => ob99 (by simp only [b99, lt_end, lt_self, List.append_nil, cond_false]; rfl)
  | e :: suf, pre, h, hl => ob99 (by
    simp only [List.length_cons] at hl
    have ih := want_loop hE t suf (pre ++ [e]) (fun x hx => h x (List.mem_cons_of_mem _ hx)) (by simp; omega)
    simp only [List.append_assoc, List.singleton_append] at ih
    simp only [b99, lt_mid, inb_mid, nth_mid, cond_true, Option.bind_some, OfTy_eq hE (h e List.mem_cons_self), next_mid pre e (by omega), ih, wantL, wantT]
    by_cases h1 : (ofTy e S U).2 = 0
    · rw [nbt h1, cond_false, orE_z _ h1]
      by_cases h2 : (ofTy e S U).1 = t
      · rw [nbt h2, cond_false, if_neg (fun hh => hh h2), orE_z _ rfl]
      · rw [nbf h2, cond_true, if_pos h2, orE_n _ (by decide), endW_n _ _ (by decide)]
    · rw [nbf h1, cond_true, orE_n _ h1, orE_n _ h1, endW_n _ _ h1])
theorem want_eq {S : List Pm} {U : List Un} (hE : EnvOk S U) {t : Int} {l : List (List Nd)} (h : ∀ e ∈ l, e.length ≤ 1000000) (hl : l.length ≤ 1000) : c91 T.rf S U t l = some (S, U, wantL S U t l) := or91 (by
  have h0 := want_loop hE t l [] h (by simp; omega)
  simp only [List.nil_append, List.length_nil] at h0
  rw [show ((0 : Nat) : Int) = (0 : Int) from rfl] at h0
  simp only [r91, h0, Option.bind_some]
  by_cases hz : wantL S U t l = 0
  · rw [endW_z _ _ hz, hz]
  · rw [endW_n _ _ hz])

theorem want2_loop {S : List Pm} {U : List Un} (hE : EnvOk S U) (t : Int) : ∀ (suf pre : List (List Nd)), (∀ e ∈ suf, e.length ≤ 1000000) → pre.length + suf.length ≤ 1000 →
    k105 T.rb U S t (pre ++ suf) ((pre ++ suf).length : Nat) (pre.length : Nat) = some (endW (wantL S U t suf) (U, S, wantL S U t suf) (U, S))
  | [], pre, h, hl => ob105 (by simp only [b105, lt_end, lt_self, List.append_nil, cond_false]; rfl)
  | e :: suf, pre, h, hl => ob105 (by
    simp only [List.length_cons] at hl
    have ih := want2_loop hE t suf (pre ++ [e]) (fun x hx => h x (List.mem_cons_of_mem _ hx)) (by simp; omega)
    simp only [List.append_assoc, List.singleton_append] at ih
    have h5 : k106 T.rb t (ofTy e S U).1 (ofTy e S U).2 = some (endW (wantT S U t e) (wantT S U t e) ()) := ob106 (by
      simp only [b106, wantT]
      by_cases h1 : (ofTy e S U).2 = 0
      · rw [nbt h1, cond_false, orE_z _ h1]
        by_cases h2 : (ofTy e S U).1 = t
        · rw [nbt h2, cond_false, if_neg (fun hh => hh h2), endW_z _ _ rfl]
        · rw [nbf h2, cond_true, if_pos h2, endW_n _ _ (by decide)]
      · rw [nbf h1, cond_true, orE_n _ h1, endW_n _ _ h1])
    simp only [b105, lt_mid, inb_mid, nth_mid, cond_true, Option.bind_some, OfTy_eq hE (h e List.mem_cons_self), h5, next_mid pre e (by omega), ih, wantL]
    by_cases h1 : wantT S U t e = 0
    · simp only [endW_z _ _ h1, orE_z _ h1]
    · simp only [endW_n _ _ h1, orE_n _ h1])
theorem want2_eq {S : List Pm} {U : List Un} (hE : EnvOk S U) {t : Int} {l : List (List Nd)} (h : ∀ e ∈ l, e.length ≤ 1000000) (hl : l.length ≤ 1000) : c93 T.rf U S t l = some (U, S, wantL S U t l) := or93 (by
  have h0 := want2_loop hE t l [] h (by simp; omega)
  simp only [List.nil_append, List.length_nil] at h0
  rw [show ((0 : Nat) : Int) = (0 : Int) from rfl] at h0
  simp only [r93, h0, Option.bind_some]
  by_cases hz : wantL S U t l = 0
  · rw [endW_z _ _ hz, hz]
  · rw [endW_n _ _ hz])

theorem want3_loop {S : List Pm} {U : List Un} (hE : EnvOk S U) (t : Int) : ∀ (suf pre : List (List Nd)), (∀ e ∈ suf, e.length ≤ 1000000) → pre.length + suf.length ≤ 1000 →
    k117 T.rb (S, U) t (pre ++ suf) ((pre ++ suf).length : Nat) (pre.length : Nat) = some (endW (wantL S U t suf) ((S, U), wantL S U t suf) (S, U))
  | [], pre, h, hl => ob117 (by simp only [b117, lt_end, lt_self, List.append_nil, cond_false]; rfl)
  | e :: suf, pre, h, hl => ob117 (by
    simp only [List.length_cons] at hl
    have ih := want3_loop hE t suf (pre ++ [e]) (fun x hx => h x (List.mem_cons_of_mem _ hx)) (by simp; omega)
    simp only [List.append_assoc, List.singleton_append] at ih
    simp only [b117, lt_mid, inb_mid, nth_mid, cond_true, Option.bind_some, OfTy_eq hE (h e List.mem_cons_self), next_mid pre e (by omega), ih, wantL, wantT]
    by_cases h1 : (ofTy e S U).2 = 0
    · rw [nbt h1, cond_false, orE_z _ h1]
      by_cases h2 : (ofTy e S U).1 = t
      · rw [nbt h2, cond_false, if_neg (fun hh => hh h2), orE_z _ rfl]
      · rw [nbf h2, cond_true, if_pos h2, orE_n _ (by decide), endW_n _ _ (by decide)]
    · rw [nbf h1, cond_true, orE_n _ h1, orE_n _ h1, endW_n _ _ h1])
theorem want3_eq {S : List Pm} {U : List Un} (hE : EnvOk S U) {t : Int} {l : List (List Nd)} (h : ∀ e ∈ l, e.length ≤ 1000000) (hl : l.length ≤ 1000) : c96 T.rf (S, U) t l = some ((S, U), wantL S U t l) := or96 (by
  have h0 := want3_loop hE t l [] h (by simp; omega)
  simp only [List.nil_append, List.length_nil] at h0
  rw [show ((0 : Nat) : Int) = (0 : Int) from rfl] at h0
  simp only [r96, h0, Option.bind_some]
  by_cases hz : wantL S U t l = 0
  · rw [endW_z _ _ hz, hz]
  · rw [endW_n _ _ hz])

theorem orE_0 (v : Int) : orE v 0 = v := by
  by_cases h : v = 0
  · rw [orE_z _ h, h]
  · rw [orE_n _ h]
theorem wantL1 (S : List Pm) (U : List Un) (t : Int) (e : List Nd) : wantL S U t [e] = wantT S U t e := by rw [wantL, wantL, orE_0]
theorem wantL2 (S : List Pm) (U : List Un) (t : Int) (e f : List Nd) : wantL S U t [e, f] = orE (wantT S U t e) (wantT S U t f) := by rw [wantL, wantL1]

def sideW {α β : Type} (x : It) (a : α) (b : β) : α ⊕ β := if x.1 = 3 then .inl a else .inr b
theorem sideW_y {α β : Type} {x : It} (a : α) (b : β) (h : x.1 = 3) : sideW x a b = .inl a := by rw [sideW, if_pos h]
theorem sideW_n {α β : Type} {x : It} (a : α) (b : β) (h : x.1 ≠ 3) : sideW x a b = .inr b := by rw [sideW, if_neg h]

theorem item_eq {S : List Pm} (hE : EnvOk S []) {x : It} (hx : SmallI x) : c90 T.rf S [] x = some (sideW x ([], itemG S x, itemW S x) (S, [], itemW S x)) := or90 (by
  have l1 := hx.e
  have l2 := hx.f
  have w1 : ∀ t, c91 T.rf S [] t [x.2.2.2.1] = some (S, [], wantT S [] t x.2.2.2.1) := fun t => by
    rw [want_eq hE (fun e he => by simp at he; subst he; omega) (by simp), wantL1]
  have w2 : c91 T.rf S [] 1 [x.2.2.2.1, x.2.2.2.2.1] = some (S, [], orE (wantT S [] 1 x.2.2.2.1) (wantT S [] 1 x.2.2.2.2.1)) := by
    rw [want_eq hE (fun e he => by simp at he; rcases he with rfl | rfl <;> omega) (by simp), wantL2]
  have h5 : ∀ v, k100 T.rb v = some v := fun v => ob100 rfl
  have hs := hE.st
  simp only [r90, w1, w2, h5, Option.bind_some, itemW, itemG]
  by_cases h3 : x.1 = 3
  · rw [bt h3, cond_true, ble_most (by omega), Bool.and_true, cond_true, sideW_y _ _ h3, if_pos h3, if_pos h3]
  rw [bf h3, cond_false, sideW_n _ _ h3, if_neg h3]
  by_cases h1 : x.1 = 1
  · rw [bt h1, cond_true, cond_true, if_pos (.inl h1)]
  rw [bf h1, cond_false]
  by_cases h2 : x.1 = 2
  · rw [bt h2, cond_true, if_pos (.inr h2)]
  rw [bf h2, cond_false, if_neg (fun hh => by rcases hh with hh | hh; exact h1 hh; exact h2 hh)]
  by_cases h4 : x.1 = 4
  · rw [bt h4, cond_true, if_pos h4]
  · rw [bf h4, cond_false, if_neg h4])

theorem item2_eq {S : List Pm} (hE : EnvOk S []) {x : It} (hx : SmallI x) : c92 T.rf [] S x = some (sideW x ([], itemG S x, itemW S x) ([], S, itemW S x)) := or92 (by
  have l1 := hx.e
  have l2 := hx.f
  have w1 : ∀ t, c93 T.rf [] S t [x.2.2.2.1] = some ([], S, wantT S [] t x.2.2.2.1) := fun t => by
    rw [want2_eq hE (fun e he => by simp at he; subst he; omega) (by simp), wantL1]
  have w2 : c93 T.rf [] S 1 [x.2.2.2.1, x.2.2.2.2.1] = some ([], S, orE (wantT S [] 1 x.2.2.2.1) (wantT S [] 1 x.2.2.2.2.1)) := by
    rw [want2_eq hE (fun e he => by simp at he; rcases he with rfl | rfl <;> omega) (by simp), wantL2]
  have h5 : ∀ v, k107 T.rb v = some v := fun v => ob107 rfl
  have hs := hE.st
  simp only [r92, w1, w2, h5, Option.bind_some, itemW, itemG]
  by_cases h3 : x.1 = 3
  · rw [bt h3, cond_true, ble_most (by omega), Bool.and_true, cond_true, sideW_y _ _ h3, if_pos h3, if_pos h3]
  rw [bf h3, cond_false, sideW_n _ _ h3, if_neg h3]
  by_cases h1 : x.1 = 1
  · rw [bt h1, cond_true, cond_true, if_pos (.inl h1)]
  rw [bf h1, cond_false]
  by_cases h2 : x.1 = 2
  · rw [bt h2, cond_true, if_pos (.inr h2)]
  rw [bf h2, cond_false, if_neg (fun hh => by rcases hh with hh | hh; exact h1 hh; exact h2 hh)]
  by_cases h4 : x.1 = 4
  · rw [bt h4, cond_true, if_pos h4]
  · rw [bf h4, cond_false, if_neg h4])

theorem itemG_len (S : List Pm) (x : It) : S.length ≤ (itemG S x).length ∧ (itemG S x).length ≤ S.length + 1 := by
  unfold itemG; split
  · simp
  · omega
theorem itemG_n {S : List Pm} {x : It} (h : x.1 ≠ 3) : itemG S x = S := by rw [itemG, if_neg h]
theorem env0 {S : List Pm} (h : S.length ≤ 1000000) : EnvOk S [] := ⟨h, by simp, by simp⟩

def ErrA {α : Type} (z : (List Un × List Pm × Int) ⊕ α) (v : Int) : Prop := match z with
  | .inl u => u.2.2 = v ∧ v ≠ 0
  | .inr _ => v = 0
def Err4 (z : (List Un × List Pm × Int) ⊕ (List Un × List Pm) ⊕ (List Pm × List Un × Int) ⊕ (List Pm × List Un)) (v : Int) : Prop := match z with
  | .inl u => u.2.2 = v ∧ v ≠ 0
  | .inr (.inl _) => v = 0
  | .inr (.inr (.inl u)) => u.2.2 = v ∧ v ≠ 0
  | .inr (.inr (.inr _)) => v = 0

theorem items_alt : ∀ (suf pre : List It) (S : List Pm), (∀ x ∈ suf, SmallI x) → S.length + suf.length ≤ 1000000 → pre.length + suf.length ≤ 1000 →
    ∃ z, k115 T.rb [] S (pre ++ suf) ((pre ++ suf).length : Nat) (pre.length : Nat) = some z ∧ ErrA z (itemsW suf S)
  | [], pre, S, h, hl, h2 => ⟨.inr ([], S), ob115 (by simp only [b115, lt_end, lt_self, List.append_nil, cond_false]), rfl⟩
  | x :: suf, pre, S, h, hl, h2 => by
    simp only [List.length_cons] at hl h2
    have hS := itemG_len S x
    obtain ⟨z, hz, hg⟩ := items_alt suf (pre ++ [x]) (itemG S x) (fun y hy => h y (List.mem_cons_of_mem _ hy)) (by omega) (by simp; omega)
    simp only [List.append_assoc, List.singleton_append] at hz
    have hi := item2_eq (env0 (show S.length ≤ 1000000 by omega)) (h x List.mem_cons_self)
    by_cases h3 : x.1 = 3
    · rw [sideW_y _ _ h3] at hi
      by_cases hw : itemW S x = 0
      · refine ⟨z, ob115 ?_, by rw [itemsW, orE_z _ hw]; exact hg⟩
        simp only [b115, lt_mid, inb_mid, nth_mid, cond_true, Option.bind_some, hi, nbt hw, cond_false, next_mid pre x (by omega), hz]
      · refine ⟨.inl ([], itemG S x, itemW S x), ob115 ?_, by rw [itemsW, orE_n _ hw]; exact ⟨rfl, hw⟩⟩
        simp only [b115, lt_mid, inb_mid, nth_mid, cond_true, Option.bind_some, hi, nbf hw]
    · rw [sideW_n _ _ h3] at hi
      rw [itemG_n h3] at hz hg
      by_cases hw : itemW S x = 0
      · refine ⟨z, ob115 ?_, by rw [itemsW, orE_z _ hw, itemG_n h3]; exact hg⟩
        simp only [b115, lt_mid, inb_mid, nth_mid, cond_true, Option.bind_some, hi, nbt hw, cond_false, next_mid pre x (by omega), hz]
      · refine ⟨.inl ([], S, itemW S x), ob115 ?_, by rw [itemsW, orE_n _ hw]; exact ⟨rfl, hw⟩⟩
        simp only [b115, lt_mid, inb_mid, nth_mid, cond_true, Option.bind_some, hi, nbf hw]

theorem items_loop : ∀ (suf pre : List It) (S : List Pm), (∀ x ∈ suf, SmallI x) → S.length + suf.length ≤ 1000000 → pre.length + suf.length ≤ 1000 →
    ∃ z, k114 T.rb S [] (pre ++ suf) ((pre ++ suf).length : Nat) (pre.length : Nat) = some z ∧ Err4 z (itemsW suf S)
  | [], pre, S, h, hl, h2 => ⟨.inr (.inr (.inr (S, []))), ob114 (by simp only [b114, lt_end, lt_self, List.append_nil, cond_false]), rfl⟩
  | x :: suf, pre, S, h, hl, h2 => by
    simp only [List.length_cons] at hl h2
    have hS := itemG_len S x
    have hi := item_eq (env0 (show S.length ≤ 1000000 by omega)) (h x List.mem_cons_self)
    by_cases h3 : x.1 = 3
    · obtain ⟨z, hz, hg⟩ := items_alt suf (pre ++ [x]) (itemG S x) (fun y hy => h y (List.mem_cons_of_mem _ hy)) (by omega) (by simp; omega)
      simp only [List.append_assoc, List.singleton_append] at hz
      rw [sideW_y _ _ h3] at hi
      by_cases hw : itemW S x = 0
      · cases z with
        | inl u =>
          refine ⟨.inl u, ob114 ?_, by rw [itemsW, orE_z _ hw]; exact hg⟩
          simp only [b114, lt_mid, inb_mid, nth_mid, cond_true, Option.bind_some, hi, nbt hw, cond_false, next_mid pre x (by omega), hz]
        | inr u =>
          refine ⟨.inr (.inl u), ob114 ?_, by rw [itemsW, orE_z _ hw]; exact hg⟩
          simp only [b114, lt_mid, inb_mid, nth_mid, cond_true, Option.bind_some, hi, nbt hw, cond_false, next_mid pre x (by omega), hz]
      · refine ⟨.inl ([], itemG S x, itemW S x), ob114 ?_, by rw [itemsW, orE_n _ hw]; exact ⟨rfl, hw⟩⟩
        simp only [b114, lt_mid, inb_mid, nth_mid, cond_true, Option.bind_some, hi, nbf hw]
    · obtain ⟨z, hz, hg⟩ := items_loop suf (pre ++ [x]) S (fun y hy => h y (List.mem_cons_of_mem _ hy)) (by omega) (by simp; omega)
      simp only [List.append_assoc, List.singleton_append] at hz
      rw [sideW_n _ _ h3] at hi
      by_cases hw : itemW S x = 0
      · refine ⟨z, ob114 ?_, by rw [itemsW, orE_z _ hw, itemG_n h3]; exact hg⟩
        simp only [b114, lt_mid, inb_mid, nth_mid, cond_true, Option.bind_some, hi, nbt hw, cond_false, next_mid pre x (by omega), hz]
      · refine ⟨.inr (.inr (.inl (S, [], itemW S x))), ob114 ?_, by rw [itemsW, orE_n _ hw]; exact ⟨rfl, hw⟩⟩
        simp only [b114, lt_mid, inb_mid, nth_mid, cond_true, Option.bind_some, hi, nbf hw]

theorem IndexQ_loop (q : List UInt8 × List Nd) : ∀ (suf pre : List Pm), pre.length + suf.length ≤ 1000000 →
    k112 T.rb q (pre ++ suf) ((pre ++ suf).length : Nat) (pre.length : Nat) = some (match findI (isP q.1) suf pre.length with
      | some i => .inl (q, ((i : Nat) : Int))
      | none => .inr q)
  | [], pre, h => ob112 (by
    simp only [b112, lt_end, lt_self, List.append_nil, cond_false]; rfl)
  | x :: suf, pre, h => ob112 (by
    simp only [List.length_cons] at h
    have ih := IndexQ_loop q suf (pre ++ [x]) (by simp; omega)
    simp only [List.append_assoc, List.singleton_append] at ih
    rw [show (pre ++ [x]).length = pre.length + 1 by simp] at ih
    have h1 : c95 T.rf q x = some (q, isP q.1 x) := or95 rfl
    simp only [b112, lt_mid, inb_mid, nth_mid, cond_true, Option.bind_some, h1, wr_succ (show pre.length < 4611686018427387904 by omega), ih, findI]
    cases isP q.1 x <;> rfl)
theorem IndexQ_eq {q : List UInt8 × List Nd} {l : List Pm} (h : l.length ≤ 1000000) : c94 T.rf q l = some (q, match findI (isP q.1) l 0 with
      | some i => ((i : Nat) : Int)
      | none => -1) := or94 (by
  have := IndexQ_loop q l [] (by simpa using h)
  simp only [List.nil_append, List.length_nil] at this
  rw [show ((0 : Nat) : Int) = (0 : Int) from rfl] at this
  simp only [r94, this, Option.bind_some]
  cases findI (isP q.1) l 0 <;> rfl)

theorem eqs_loop {S : List Pm} {U : List Un} (hE : EnvOk S U) : ∀ (suf pre : List (List UInt8 × List Nd)), (∀ q ∈ suf, q.2.length ≤ 200) → pre.length + suf.length ≤ 1000 →
    k116 T.rb (S, U) S (pre ++ suf) ((pre ++ suf).length : Nat) (pre.length : Nat) = some (endW (eqsW S U suf) ((S, U), eqsW S U suf) (S, U))
  | [], pre, h, h2 => ob116 (by simp only [b116, lt_end, lt_self, List.append_nil, cond_false]; rfl)
  | q :: suf, pre, h, h2 => ob116 (by
    simp only [List.length_cons] at h2
    have ih := eqs_loop hE suf (pre ++ [q]) (fun y hy => h y (List.mem_cons_of_mem _ hy)) (by simp; omega)
    simp only [List.append_assoc, List.singleton_append] at ih
    have hq := h q List.mem_cons_self
    have hw : ∀ t, c96 T.rf (S, U) t [q.2] = some ((S, U), wantT S U t q.2) := fun t => by
      rw [want3_eq hE (fun e he => by simp at he; subst he; omega) (by simp), wantL1]
    simp only [b116, lt_mid, inb_mid, nth_mid, cond_true, Option.bind_some, IndexQ_eq hE.st, hw, next_mid pre q (by omega), ih, eqsW, eqW]
    have hf := findI_spec (isP q.1) S []
    rw [List.length_nil, List.nil_append] at hf
    cases hi : findI (isP q.1) S 0 with
    | none =>
      rw [hi] at hf
      simp only [hf]
      rw [orE_n (v := 8) _ (by decide), endW_n (v := 8) _ _ (by decide)]; rfl
    | some i =>
      rw [hi] at hf
      obtain ⟨_, g2, p, g4, g5⟩ := hf
      simp only [g5, df (show ¬ ((i : Nat) : Int) < 0 by omega), cond_false, inb_nat, dt (show i < S.length by omega), cond_true, Int.toNat_natCast, g4, Option.bind_some]
      by_cases hz : wantT S U p.2 q.2 = 0
      · rw [nbt hz, cond_false, orE_z _ hz]
      · rw [nbf hz, cond_true, orE_n _ hz, endW_n _ _ hz])

theorem streams_len {u : Un} (h : SmallU u) : (streamsU u).length ≤ 61 := by
  have l1 := h.ins
  have l2 := h.vars
  unfold streamsU
  cases u.1
  · simp only [Bool.not_false, cond_true, List.length_append, List.length_singleton]; omega
  · simp only [Bool.not_true, cond_false]; omega

theorem clone_eq {l : List Pm} (h : l.length ≤ 1000000) : c88 T.rf l = some l := or88 (by
  simp only [r88, ble_most (show 0 + l.length ≤ 274877906944 by omega), Bool.and_true, cond_true, List.nil_append]
  cases l with
  | nil => simp only [List.isEmpty_nil, cond_true]; unfold agree; rw [if_pos rfl]
  | cons x r => rfl)
theorem clip_eq (l : List Pm) : c89 T.rf l = some l := or89 (by
  simp only [r89, beq_self_eq_true, Bool.and_self, cond_true])

theorem unit_tail {u : Un} (hu : SmallU u) {S : List Pm} (hS : S.length ≤ 1000) {U : List Un} (hE : EnvOk S U) : k113 T.rb u S U = some (u, orE (itemsW u.2.2.2.2.2.2.2 S) (eqsW S U u.2.2.2.2.2.2.1)) := ob113 (by
  have l1 := hu.items
  have l2 := hu.eqs
  obtain ⟨z, hz, hg⟩ := items_loop u.2.2.2.2.2.2.2 [] S hu.item (by omega) (by simp; omega)
  have h2 := eqs_loop hE u.2.2.2.2.2.2.1 [] hu.eq (by simp; omega)
  simp only [List.nil_append, List.length_nil] at hz h2
  rw [show ((0 : Nat) : Int) = (0 : Int) from rfl] at hz h2
  simp only [b113, clip_eq, Option.bind_some, hz, h2]
  have fin : ∀ w, w = 0 → (some (endW (eqsW S U u.2.2.2.2.2.2.1) ((S, U), eqsW S U u.2.2.2.2.2.2.1) (S, U))).bind (fun (z7 : ((List Pm × List Un) × Int) ⊕ (List Pm × List Un)) => match z7 with
        | .inl u8 => some (u, u8.2)
        | .inr w9 => some (u, 0)) = some (u, orE w (eqsW S U u.2.2.2.2.2.2.1)) := fun w hw => by
    rw [orE_z _ hw]
    by_cases hq : eqsW S U u.2.2.2.2.2.2.1 = 0
    · rw [endW_z _ _ hq, hq]; rfl
    · rw [endW_n _ _ hq]; rfl
  match z, hg with
  | .inl v, ⟨g1, g2⟩ => rw [orE_n _ g2, ← g1]
  | .inr (.inl v), g => exact fin _ g
  | .inr (.inr (.inl v)), ⟨g1, g2⟩ => rw [orE_n _ g2, ← g1]
  | .inr (.inr (.inr v)), g => exact fin _ g)

theorem unitT_eq {u : Un} (hu : SmallU u) {U : List Un} (hU : U.length ≤ 1000000) (hin : ∀ u ∈ U, u.2.2.1.length ≤ 1000000) : c87 T.rf u U = some (unitW U u) := or87 (by
  have l1 := hu.ins
  have l2 := hu.vars
  have l3 := streams_len hu
  have ht := unit_tail hu (show (streamsU u).length ≤ 1000 by omega) (U := U) ⟨by omega, hU, hin⟩
  simp only [r87, clone_eq (show u.2.2.1.length ≤ 1000000 by omega), Option.bind_some, unitW]
  rw [streamsU] at ht ⊢
  cases hc : u.1
  · rw [hc] at ht
    rw [Bool.not_false, cond_true] at ht ⊢
    rw [cond_true, ble_most (by omega), Bool.true_and, cond_true, ble_most (by simp; omega), Bool.true_and, cond_true, ht]; rfl
  · rw [hc] at ht
    rw [Bool.not_true, cond_false] at ht ⊢
    rw [cond_false, ht]; rfl)

theorem sub_pre {α : Type} (pre suf : List α) : sub (pre ++ suf) (some (0, (pre.length : Int).toNat - 0)) = pre := by
  show ((pre ++ suf).drop 0).take _ = pre
  rw [List.drop_zero, Nat.sub_zero, Int.toNat_natCast, List.take_left' rfl]

theorem CheckT_loop (p : Pg) (hp : SmallP p) (z : Int × Int) : ∀ (suf pre : List Un), p.1 = pre ++ suf →
    k96 T.rb p z p.1 (p.1.length : Nat) (pre.length : Nat) = some (endW (checkW suf pre).1 (p, checkW suf pre) (p, z))
  | [], pre, h => ob96 (by rw [h]; simp only [b96, lt_end, lt_self, List.append_nil, cond_false]; rfl)
  | u :: suf, pre, h => ob96 (by
    have hpl := hp.units
    have hlen : p.1.length = pre.length + suf.length + 1 := by rw [h]; simp; omega
    have ih := CheckT_loop p hp z suf (pre ++ [u]) (by rw [h]; simp)
    have hmem : ∀ x ∈ pre ++ u :: suf, SmallU x := fun x hx => hp.unit x (by rw [h]; exact hx)
    have hu := unitT_eq (hmem u (by simp)) (U := pre) (by omega) (fun x hx => by have := (hmem x (List.mem_append_left _ hx)).ins; omega)
    have hi : inb' ((pre.length : Nat) : Int) p.1.length = true := by rw [inb'_nat]; exact dt (by omega)
    have hn : nth p.1 ((pre.length : Nat) : Int).toNat = some u := by rw [h]; exact nth_mid _ _ _
    have hb : inb ((pre.length : Nat) : Int) p.1.length = true := by rw [inb_nat]; exact dt (by omega)
    have hsub : sub p.1 (some (0, (((pre.length : Nat) : Int).toNat - 0))) = pre := by rw [h]; exact sub_pre _ _
    simp only [b96, dt (show ((pre.length : Nat) : Int) < ((p.1.length : Nat) : Int) by omega), hb, hn, hi, hsub, cond_true, Option.bind_some, hu, next_mid pre u (by omega), ih]
    by_cases hz : unitW pre u = 0
    · rw [nbt hz, cond_false, checkW_z _ _ hz]
    · rw [nbf hz, cond_true, checkW_n _ _ hz, endW_n _ _ hz])

theorem CheckT_eq {p : Pg} (hp : SmallP p) : c86 T.rf p = some (checkW p.1 []) := or86 (by
  have h0 := CheckT_loop p hp (0, 0) p.1 [] rfl
  rw [show (((([] : List Un).length : Nat)) : Int) = 0 from rfl] at h0
  simp only [r86, h0, Option.bind_some]
  by_cases hz : (checkW p.1 []).1 = 0
  · rw [endW_z _ _ hz, checkW_zero _ _ hz]
  · rw [endW_n _ _ hz])

/-! ### The document's -/
theorem refWant_eq {S : List Pm} {U : List Un} (hE : EnvOk S U) {e : List Nd} (h : e.length ≤ 1000000) (t : Int) : c118 T.rf e S U t = some (wantT S U t e) := or118 (by
  simp only [r118, refOfTy_eq hE h, Option.bind_some, wantT]
  by_cases h1 : (ofTy e S U).2 = 0
  · rw [bt h1, cond_true, orE_z _ h1]
    by_cases h2 : (ofTy e S U).1 = t
    · rw [nbt h2, cond_false, if_neg (fun hh => hh h2), h1]
    · rw [nbf h2, cond_true, if_pos h2]
  · rw [bf h1, cond_false, orE_n _ h1])

theorem refStreams_eq {u : Un} (hu : SmallU u) : c117 T.rf u = some (streamsU u) := or117 (by
  have l1 := hu.ins
  have l2 := hu.vars
  simp only [r117, ble_most (show u.2.2.1.length ≤ 274877906944 by omega), cond_true, streamsU]
  cases hc : u.1
  · rw [Bool.not_false, cond_true, cond_true, ble_most (by omega), Bool.true_and, cond_true, ble_most (by simp; omega), Bool.true_and, cond_true]
  · rfl)

theorem refItems_loop (u : Un) : ∀ (suf pre : List It) (S : List Pm), u.2.2.2.2.2.2.2 = pre ++ suf → (∀ x ∈ suf, SmallI x) → S.length + suf.length ≤ 1000000 → pre.length + suf.length ≤ 1000 →
    k136 T.rb u S (pre.length : Nat) = some (endW (itemsW suf S) (u, itemsW suf S) u)
  | [], pre, S, hx, h, hl, h2 => ob136 (by simp only [b136, hx, lt_end, lt_self, List.append_nil, cond_false]; rfl)
  | x :: suf, pre, S, hx, h, hl, h2 => ob136 (by
    simp only [List.length_cons] at hl h2
    have hS := itemG_len S x
    have ih := refItems_loop u suf (pre ++ [x]) (itemG S x) (by rw [hx]; simp) (fun y hy => h y (List.mem_cons_of_mem _ hy)) (by omega) (by simp; omega)
    have hi := h x List.mem_cons_self
    have l1 := hi.e
    have l2 := hi.f
    have hE := env0 (show S.length ≤ 1000000 by omega)
    have w1 := fun t => refWant_eq hE (show x.2.2.2.1.length ≤ 1000000 by omega) t
    have w2 := fun t => refWant_eq hE (show x.2.2.2.2.1.length ≤ 1000000 by omega) t
    simp only [b136, hx, lt_mid, inb_mid, nth_mid, cond_true, Option.bind_some, w1, w2, next_mid pre x (by omega), ble_most (show S.length + 1 ≤ 274877906944 by omega), Bool.and_true, itemsW]
    by_cases h3 : x.1 = 3
    · rw [itemG, if_pos h3] at ih ⊢
      rw [bt h3, cond_true, cond_true, ih, itemW, if_pos h3]
      by_cases hw : wantT S [] x.2.2.1 x.2.2.2.1 = 0
      · rw [nbt hw, cond_false, orE_z _ hw]
      · rw [nbf hw, cond_true, orE_n _ hw, endW_n _ _ hw]
    rw [itemG_n h3] at ih ⊢
    rw [bf h3, cond_false, itemW, if_neg h3]
    simp only [cond_false, ih]
    by_cases h1 : x.1 = 1
    · rw [bt h1, cond_true, cond_true, if_pos (.inl h1)]
      by_cases hw : wantT S [] 1 x.2.2.2.1 = 0
      · rw [nbt hw, cond_false, orE_z _ hw]
      · rw [nbf hw, cond_true, orE_n _ hw, endW_n _ _ hw]
    rw [bf h1, cond_false]
    by_cases h2 : x.1 = 2
    · rw [bt h2, cond_true, if_pos (.inr h2)]
      by_cases hw : wantT S [] 1 x.2.2.2.1 = 0
      · rw [nbt hw, cond_false, orE_z _ hw]
      · rw [nbf hw, cond_true, orE_n _ hw, endW_n _ _ hw]
    rw [bf h2, cond_false, if_neg (fun hh => by rcases hh with hh | hh; exact h1 hh; exact h2 hh)]
    by_cases h4 : x.1 = 4
    · rw [bt h4, cond_true, if_pos h4]
      by_cases hw : wantT S [] 1 x.2.2.2.1 = 0
      · rw [bt hw, cond_true]
        simp only [orE_z _ hw]
        by_cases hw2 : wantT S [] 1 x.2.2.2.2.1 = 0
        · rw [nbt hw2, cond_false, orE_z _ hw2]
        · rw [nbf hw2, cond_true, orE_n _ hw2, endW_n _ _ hw2]
      · rw [bf hw, cond_false, nbf hw, cond_true]
        simp only [orE_n _ hw, endW_n _ _ hw]
    · rw [bf h4, cond_false, if_neg h4, orE_z _ rfl])

theorem refItems_eq {u : Un} (hu : SmallU u) : c116 T.rf u = some (itemsW u.2.2.2.2.2.2.2 (streamsU u)) := or116 (by
  have l1 := hu.items
  have l3 := streams_len hu
  have h0 := refItems_loop u u.2.2.2.2.2.2.2 [] (streamsU u) rfl hu.item (by omega) (by simp; omega)
  rw [show (((([] : List It).length : Nat)) : Int) = 0 from rfl] at h0
  simp only [r116, refStreams_eq hu, Option.bind_some, h0]
  by_cases hz : itemsW u.2.2.2.2.2.2.2 (streamsU u) = 0
  · rw [endW_z _ _ hz, hz]
  · rw [endW_n _ _ hz])

theorem refEqs_err (p : Pg) (u : Un) (i : Int) (S : List Pm) {v : Int} (hv : v ≠ 0) (j : Int) : k139 T.rb p u i v S j = some (p, u, v) := ob139 (by
  simp only [b139, bf hv, cond_false]
  cases decide (j < (((u.2.2.2.2.2.2.1.length : Nat) : Int))) <;> rfl)

theorem refEqs_loop (p : Pg) (u : Un) {A B : List Un} (hp : p.1 = A ++ B) {S : List Pm} (hE : EnvOk S A) : ∀ (suf pre : List (List UInt8 × List Nd)), u.2.2.2.2.2.2.1 = pre ++ suf → (∀ q ∈ suf, q.2.length ≤ 200) → pre.length + suf.length ≤ 1000 →
    k139 T.rb p u (A.length : Nat) 0 S (pre.length : Nat) = some (p, u, eqsW S A suf)
  | [], pre, hx, h, h2 => ob139 (by simp only [b139, hx, lt_end, lt_self, List.append_nil, cond_false]; rfl)
  | q :: suf, pre, hx, h, h2 => ob139 (by
    simp only [List.length_cons] at h2
    have ih := refEqs_loop p u hp hE suf (pre ++ [q]) (by rw [hx]; simp) (fun y hy => h y (List.mem_cons_of_mem _ hy)) (by simp; omega)
    have hq := h q List.mem_cons_self
    have hi : inb' ((A.length : Nat) : Int) p.1.length = true := by rw [inb'_nat]; exact dt (by rw [hp]; simp)
    have hsub : sub p.1 (some (0, (((A.length : Nat) : Int).toNat - 0))) = A := by rw [hp]; exact sub_pre _ _
    simp only [b139, hx, lt_mid, inb_mid, nth_mid, cond_true, Option.bind_some, stream_eq hE.st, hi, hsub, refWant_eq hE (show q.2.length ≤ 1000000 by omega), next_mid pre q (by omega), eqsW, eqW, beq_self_eq_true]
    cases hf : findX (isP q.1) S with
    | none =>
      simp only [Bool.not_false, cond_true]
      rw [refEqs_err p u _ S (by decide), orE_n _ (by decide)]
    | some y =>
      simp only [Bool.not_true, cond_false]
      by_cases hz : wantT S A y.2 q.2 = 0
      · rw [orE_z _ hz, hz]; exact ih
      · rw [orE_n _ hz]; exact refEqs_err p u _ S hz _)

theorem refEqs_eq (p : Pg) {u : Un} (hu : SmallU u) {A B : List Un} (hp : p.1 = A ++ B) (hE : EnvOk (streamsU u) A) : k139 T.rb p u (A.length : Nat) (itemsW u.2.2.2.2.2.2.2 (streamsU u)) (streamsU u) 0 = some (p, u, unitW A u) := by
  have l2 := hu.eqs
  rw [unitW]
  by_cases hz : itemsW u.2.2.2.2.2.2.2 (streamsU u) = 0
  · rw [orE_z _ hz, hz]
    exact refEqs_loop p u hp hE u.2.2.2.2.2.2.1 [] rfl hu.eq (by simp; omega)
  · rw [orE_n _ hz]; exact refEqs_err p u _ _ hz _

theorem refCheckT_loop (p : Pg) (hp : SmallP p) (z : Int × Int) : ∀ (suf pre : List Un), p.1 = pre ++ suf →
    k138 T.rb p z (pre.length : Nat) = some (endW (checkW suf pre).1 (p, checkW suf pre) (p, z))
  | [], pre, h => ob138 (by simp only [b138, h, lt_end, lt_self, List.append_nil, cond_false]; rfl)
  | u :: suf, pre, h => ob138 (by
    have hpl := hp.units
    have hlen : p.1.length = pre.length + suf.length + 1 := by rw [h]; simp; omega
    have ih := refCheckT_loop p hp z suf (pre ++ [u]) (by rw [h]; simp)
    have hmem : ∀ x ∈ pre ++ u :: suf, SmallU x := fun x hx => hp.unit x (by rw [h]; exact hx)
    have hu := hmem u (by simp)
    have l3 := streams_len hu
    have hE : EnvOk (streamsU u) pre := ⟨by omega, by omega, fun x hx => by have := (hmem x (List.mem_append_left _ hx)).ins; omega⟩
    have hn : nth p.1 ((pre.length : Nat) : Int).toNat = some u := by rw [h]; exact nth_mid _ _ _
    have hb : inb ((pre.length : Nat) : Int) p.1.length = true := by rw [inb_nat]; exact dt (by omega)
    have hq := refEqs_eq p hu h hE
    simp only [b138, dt (show ((pre.length : Nat) : Int) < ((p.1.length : Nat) : Int) by omega), hb, hn, cond_true, Option.bind_some, refItems_eq hu, refStreams_eq hu, hq, next_mid pre u (by omega), ih]
    by_cases hz : unitW pre u = 0
    · rw [nbt hz, cond_false, checkW_z _ _ hz]
    · rw [nbf hz, cond_true, checkW_n _ _ hz, endW_n _ _ hz])

theorem refCheckT_eq {p : Pg} (hp : SmallP p) : c115 T.rf p = some (checkW p.1 []) := or115 (by
  have h0 := refCheckT_loop p hp (0, 0) p.1 [] rfl
  rw [show (((([] : List Un).length : Nat)) : Int) = 0 from rfl] at h0
  simp only [r115, h0, Option.bind_some]
  by_cases hz : (checkW p.1 []).1 = 0
  · rw [endW_z _ _ hz, checkW_zero _ _ hz]
  · rw [endW_n _ _ hz])

theorem TypesCheck_eq (p : Pg) : c114 T.rf p = some true := or114 (by
  have live_eq : c1 T.rf = some true := live_run
  simp only [r114, live_eq, Option.bind_some, Small_eq]
  cases hs : smallB p
  · rfl
  have hP := small_P hs
  simp only [Bool.not_true, cond_false, CheckT_eq hP, refCheckT_eq hP, Option.bind_some, beq_self_eq_true, Bool.and_self, cond_true])

theorem lawTypesCheck : LawOk T 114 := fun d _ => ⟨true, TypesCheck_eq d, rfl, rfl, rfl⟩

end Go.Proofs.YtomofgclaiaikaaGreat.R
