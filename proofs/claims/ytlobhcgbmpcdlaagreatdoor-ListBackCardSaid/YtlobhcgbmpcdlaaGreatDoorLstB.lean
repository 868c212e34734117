import Derived.Test.YtlobhcgbmpcdlaaGreatDoorLstA
open Option (bind_some)
open List (length_cons length_nil)
namespace Go.Proofs.YtlobhcgbmpcdlaaGreatDoor.R
open Go Go.Bm Go.Proofs
set_option linter.unusedVariables false
set_option linter.unusedSimpArgs false
set_option maxRecDepth 4000
section
variable {α : Type}
theorem setNth_mid (pre : List α) (x y : α) (suf : List α) : setNth (pre ++ x :: suf) pre.length y = pre ++ y :: suf := by
 induction pre with
 | nil => rfl
 | cons a pre ih => simp only [List.cons_append, length_cons, setNth, ih]
theorem take_mid (pre suf : List α) : (pre ++ suf).take pre.length = pre := by simp
theorem drop_mid (pre : List α) (x : α) (suf : List α) : (pre ++ x :: suf).drop (pre.length + 1) = suf := by
 induction pre with
 | nil => rfl
 | cons a pre ih => simp
end
theorem beq_self_nat (n : Nat) : Nat.beq n n = true := Nat.beq_refl n
def ordQ (q : Eqn) : Eqn := (q.1, norm q.2)
def ordI (x : Itm) : Itm := (x.1, x.2.1, x.2.2.1, norm x.2.2.2.1, norm x.2.2.2.2.1, x.2.2.2.2.2.map norm)
def ordU (u : Unt) : Unt := (u.1, u.2.1, u.2.2.1, u.2.2.2.1, u.2.2.2.2.1, u.2.2.2.2.2.1, u.2.2.2.2.2.2.1.map ordQ, u.2.2.2.2.2.2.2.map ordI)
def ordP (p : Prg) : Prg := (p.1.map ordU, p.2)
theorem ordered_eq {e : List Nd} (h : e.length ≤ 1000000) : c137 T.rf e = some (norm e) := or137 (by
 simp only [r137, pred_i h, Sub_eq h, bind_some, norm])
theorem clone_E {l : List (List Nd)} (h : l.length ≤ 1000000) : c140 T.rf l = some l := or140 (by
 simp only [r140, ble_most (show 0 + l.length ≤ 274877906944 by omega), Bool.and_true, cond_true, List.nil_append])
theorem clone_P {l : List Pm} (h : l.length ≤ 1000000) : c134 T.rf l = some l := or134 (by
 simp only [r134, ble_most (show 0 + l.length ≤ 274877906944 by omega), Bool.and_true, cond_true, List.nil_append])
theorem clone_Q {l : List Eqn} (h : l.length ≤ 1000000) : c135 T.rf l = some l := or135 (by
 simp only [r135, ble_most (show 0 + l.length ≤ 274877906944 by omega), Bool.and_true, cond_true, List.nil_append])
theorem clone_I {l : List Itm} (h : l.length ≤ 1000000) : c136 T.rf l = some l := or136 (by
 simp only [r136, ble_most (show 0 + l.length ≤ 274877906944 by omega), Bool.and_true, cond_true, List.nil_append])
theorem clone_U {l : List Unt} (h : l.length ≤ 1000000) : c133 T.rf l = some l := or133 (by
 simp only [r133, ble_most (show 0 + l.length ≤ 274877906944 by omega), Bool.and_true, cond_true, List.nil_append])
theorem lt_midN {α : Type} {N : Nat} (pre : List α) (x : α) (suf : List α) (h : N = (pre ++ x :: suf).length) : decide (((pre.length : Nat) : Int) < ((N : Nat) : Int)) = true := by subst h; exact lt_mid pre x suf
theorem lt_endN {α : Type} {N : Nat} (pre : List α) (h : N = (pre ++ []).length) : decide (((pre.length : Nat) : Int) < ((N : Nat) : Int)) = false := by subst h; exact lt_end pre
theorem next_midY {α : Type} (pre : List α) (y : α) (h : pre.length < 4611686018427387904) : IntKind.i64.wrap ((pre.length : Int) + 1) = ((pre ++ [y]).length : Nat) := next_mid pre y h
theorem ord6 (D : List Itm) (kd : Int) (nm : Str) (ty : Int) (rest : List Itm) (e f : List Nd) (N : Nat) (hN : N ≤ 1000000) : ∀ (suf pre : List (List Nd)), N = (pre ++ suf).length → (∀ y ∈ suf, y.length ≤ 1000000) →
  k175 T.rb D kd nm ty rest e f (pre ++ suf) ((D.length : Nat) : Int) ((N : Nat) : Int) (pre.length : Nat) = some (D, kd, nm, ty, rest, e, f, pre ++ suf.map norm)
 | [], pre, h, _ => ob175 (by simp only [b175, lt_endN pre h, cond_false, List.map_nil])
 | x :: suf, pre, h, hy => ob175 (by
   have ih := ord6 D kd nm ty rest e f N hN suf (pre ++ [norm x]) (by simpa using h) (fun y h => hy y (List.mem_cons_of_mem _ h))
   simp only [List.append_assoc, List.singleton_append] at ih
   have hp : pre.length < 4611686018427387904 := by simp at h; omega
   have hb : Nat.blt (((pre.length : Nat) : Int)).toNat (pre ++ x :: suf).length = true := blt_t (by simp)
   simp only [b175, lt_midN pre x suf h, Int.toNat_natCast, beq_self_nat, cond_true, inb_mid, nth_mid, bind_some]
   simp only [Int.toNat_natCast] at hb
   rw [show nth (pre ++ x :: suf) pre.length = some x from by have := nth_mid pre x suf; rwa [Int.toNat_natCast] at this]
   simp only [bind_some, hb, cond_true, ordered_eq (hy x (by simp)), setNth_mid, next_midY pre (norm x) hp, ih, List.map_cons])
theorem nth_midN {α : Type} (pre : List α) (x : α) (suf : List α) : nth (pre ++ x :: suf) pre.length = some x := by have := nth_mid pre x suf; rwa [Int.toNat_natCast] at this
theorem ord4 (D : List Unt) (k : Bool) (nm o : Str) (t : Int) (rest : List Unt) (i v : List Pm) (q : List Eqn) {n m : Nat} (hn : n ≤ 1000000) (hm : m ≤ 1000000) (N : Nat) (hN : N ≤ 1000000) : ∀ (suf pre : List Itm), N = (pre ++ suf).length → (∀ y ∈ suf, SzI n m y) →
  k173 T.rb D k nm o t rest i v q (pre ++ suf) ((D.length : Nat) : Int) ((N : Nat) : Int) (pre.length : Nat) = some (D, k, nm, o, t, rest, i, v, q, pre ++ suf.map ordI)
 | [], pre, h, _ => ob173 (by simp only [b173, lt_endN pre h, cond_false, List.map_nil])
 | x :: suf, pre, h, hy => ob173 (by
   have ih := ord4 D k nm o t rest i v q hn hm N hN suf (pre ++ [ordI x]) (by simpa using h) (fun y h => hy y (List.mem_cons_of_mem _ h))
   simp only [List.append_assoc, List.singleton_append] at ih
   have hp : pre.length < 4611686018427387904 := by simp at h; omega
   have hx := hy x (by simp)
   have h6 := ord6 pre x.1 x.2.1 x.2.2.1 suf (norm x.2.2.2.1) (norm x.2.2.2.2.1) x.2.2.2.2.2.length (Nat.le_trans hx.c hn) x.2.2.2.2.2 [] rfl (fun y h => Nat.le_trans (hx.a y h) hm)
   simp only [List.nil_append, length_nil] at h6
   rw [show ((0 : Nat) : Int) = (0 : Int) from rfl] at h6
   have h17 : k174 T.rb pre x.1 x.2.1 x.2.2.1 suf (norm x.2.2.2.1) (norm x.2.2.2.2.1) x.2.2.2.2.2 ((pre.length : Nat) : Int) = some (pre, x.1, x.2.1, x.2.2.1, suf, norm x.2.2.2.1, norm x.2.2.2.2.1, x.2.2.2.2.2.map norm) := ob174 (by
    simp only [b174, Int.toNat_natCast, beq_self_nat, cond_true, h6, bind_some])
   simp only [b173, lt_midN pre x suf h, Int.toNat_natCast, beq_self_nat, cond_true, inb_mid, nth_midN, bind_some, take_mid, drop_mid, Bool.and_true, ordered_eq (Nat.le_trans hx.e hm), ordered_eq (Nat.le_trans hx.f hm), clone_E (Nat.le_trans hx.c hn), h17, next_midY pre (ordI x) hp, List.map_cons]
   exact ih)
theorem ord2 (D : List Unt) (k : Bool) (nm o : Str) (t : Int) (rest : List Unt) (i v : List Pm) (its : List Itm) (N : Nat) (hN : N ≤ 1000000) : ∀ (suf pre : List Eqn), N = (pre ++ suf).length → (∀ y ∈ suf, y.2.length ≤ 1000000) →
  k172 T.rb D k nm o t rest i v (pre ++ suf) its ((D.length : Nat) : Int) ((N : Nat) : Int) (pre.length : Nat) = some (D, k, nm, o, t, rest, i, v, pre ++ suf.map ordQ, its)
 | [], pre, h, _ => ob172 (by simp only [b172, lt_endN pre h, cond_false, List.map_nil])
 | x :: suf, pre, h, hy => ob172 (by
   have ih := ord2 D k nm o t rest i v its N hN suf (pre ++ [ordQ x]) (by simpa using h) (fun y h => hy y (List.mem_cons_of_mem _ h))
   simp only [List.append_assoc, List.singleton_append] at ih
   have hp : pre.length < 4611686018427387904 := by simp at h; omega
   simp only [b172, lt_midN pre x suf h, Int.toNat_natCast, beq_self_nat, cond_true, inb_mid, nth_midN, bind_some, take_mid, drop_mid, ordered_eq (hy x (by simp)), next_midY pre (ordQ x) hp, List.map_cons]
   exact ih)
theorem ord0 (mn bk : Str) {n m : Nat} (hn : n ≤ 1000000) (hm : m ≤ 1000000) (N : Nat) (hN : N ≤ 1000000) : ∀ (suf pre : List Unt), N = (pre ++ suf).length → (∀ y ∈ suf, SzU n m y) →
  k170 T.rb mn bk (pre ++ suf) ((N : Nat) : Int) (pre.length : Nat) = some (mn, bk, pre ++ suf.map ordU)
 | [], pre, h, _ => ob170 (by simp only [b170, lt_endN pre h, cond_false, List.map_nil])
 | x :: suf, pre, h, hy => ob170 (by
   have ih := ord0 mn bk hn hm N hN suf (pre ++ [ordU x]) (by simpa using h) (fun y h => hy y (List.mem_cons_of_mem _ h))
   simp only [List.append_assoc, List.singleton_append] at ih
   have hp : pre.length < 4611686018427387904 := by simp at h; omega
   have hx := hy x (by simp)
   have h2 := ord2 pre x.1 x.2.1 x.2.2.2.1 x.2.2.2.2.1 suf x.2.2.1 x.2.2.2.2.2.1 x.2.2.2.2.2.2.2 x.2.2.2.2.2.2.1.length (Nat.le_trans hx.q hn) x.2.2.2.2.2.2.1 [] rfl (fun y h => Nat.le_trans (hx.qe y h) hm)
   have h4 := ord4 pre x.1 x.2.1 x.2.2.2.1 x.2.2.2.2.1 suf x.2.2.1 x.2.2.2.2.2.1 (x.2.2.2.2.2.2.1.map ordQ) hn hm x.2.2.2.2.2.2.2.length (Nat.le_trans hx.x hn) x.2.2.2.2.2.2.2 [] rfl (fun y h => hx.xe y h)
   simp only [List.nil_append, length_nil] at h2 h4
   rw [show ((0 : Nat) : Int) = (0 : Int) from rfl] at h2 h4
   have h7 : k171 T.rb pre x.1 x.2.1 x.2.2.2.1 x.2.2.2.2.1 suf x.2.2.1 x.2.2.2.2.2.1 x.2.2.2.2.2.2.1 x.2.2.2.2.2.2.2 ((pre.length : Nat) : Int) = some (pre, x.1, x.2.1, x.2.2.2.1, x.2.2.2.2.1, suf, x.2.2.1, x.2.2.2.2.2.1, x.2.2.2.2.2.2.1.map ordQ, x.2.2.2.2.2.2.2.map ordI) := ob171 (by
    simp only [b171, Int.toNat_natCast, beq_self_nat, cond_true, h2, h4, bind_some])
   simp only [b170, lt_midN pre x suf h, Int.toNat_natCast, beq_self_nat, cond_true, inb_mid, nth_midN, bind_some, take_mid, drop_mid, Bool.and_true, clone_P (Nat.le_trans hx.i hn), clone_P (Nat.le_trans hx.v hn), clone_Q (Nat.le_trans hx.q hn), clone_I (Nat.le_trans hx.x hn), h7, next_midY pre (ordU x) hp, List.map_cons]
   exact ih)
theorem Order_list {n m : Nat} {p : Prg} (h : SzP n m p) (hn : n ≤ 1000000) (hm : m ≤ 1000000) : c132 T.rf p = some (ordP p) := or132 (by
 have h0 := ord0 p.2.1 p.2.2 hn hm p.1.length (Nat.le_trans h.c hn) p.1 [] rfl (fun y hy => h.u y hy)
 simp only [List.nil_append, length_nil] at h0
 rw [show ((0 : Nat) : Int) = (0 : Int) from rfl] at h0
 simp only [r132, clone_U (Nat.le_trans h.c hn), bind_some, h0, ordP])
theorem ordI_sz {n m : Nat} {x : Itm} (h : SzI n m x) : SzI n (max m 5001) (ordI x) :=
 ⟨Nat.le_trans norm_len (by omega), Nat.le_trans norm_len (by omega), by show (x.2.2.2.2.2.map norm).length ≤ n; rw [List.length_map]; exact h.c, fun y hy => by
  obtain ⟨z, _, rfl⟩ := List.mem_map.1 (show y ∈ x.2.2.2.2.2.map norm from hy)
  exact Nat.le_trans norm_len (by omega)⟩
theorem ordU_sz {n m : Nat} {u : Unt} (h : SzU n m u) : SzU n (max m 5001) (ordU u) :=
 ⟨h.i, h.v, by show (u.2.2.2.2.2.2.1.map ordQ).length ≤ n; rw [List.length_map]; exact h.q, by show (u.2.2.2.2.2.2.2.map ordI).length ≤ n; rw [List.length_map]; exact h.x,
  fun q hq => by
   obtain ⟨z, _, rfl⟩ := List.mem_map.1 (show q ∈ u.2.2.2.2.2.2.1.map ordQ from hq)
   exact Nat.le_trans norm_len (by omega),
  fun x hx => by
   obtain ⟨z, hz, rfl⟩ := List.mem_map.1 (show x ∈ u.2.2.2.2.2.2.2.map ordI from hx)
   exact ordI_sz (h.xe z hz)⟩
theorem ordP_sz {n m : Nat} {p : Prg} (h : SzP n m p) : SzP n (max m 5001) (ordP p) :=
 ⟨by show (p.1.map ordU).length ≤ n; rw [List.length_map]; exact h.c, fun u hu => by
  obtain ⟨z, hz, rfl⟩ := List.mem_map.1 (show u ∈ p.1.map ordU from hu)
  exact ordU_sz (h.u z hz)⟩
theorem sameP_loop : ∀ (s t p q : List Pm), p.length = q.length → s.length = t.length → (p ++ s).length ≤ 1000000 →
  ∃ z, k205 T.rb (p ++ s) (q ++ t) (p.length : Nat) = some z ∧ ((s = t ∧ z = .inr ()) ∨ (s ≠ t ∧ z = .inl false))
 | [], [], p, q, _, _, _ => ⟨.inr (), ob205 (by simp only [b205, lt_end, cond_false]), .inl ⟨rfl, rfl⟩⟩
 | x :: s, y :: t, p, q, h, h2, h3 => by
   obtain ⟨z, k1, k2⟩ := sameP_loop s t (p ++ [x]) (q ++ [y]) (by simp [h]) (by simpa using h2) (by simpa using h3)
   simp only [List.append_assoc, List.singleton_append] at k1
   have hp : p.length < 4611686018427387904 := by simp at h3; omega
   have e1 : inb ((p.length : Nat) : Int) (q ++ y :: t).length = true := by rw [h]; exact inb_mid q y t
   have e2 : nth (q ++ y :: t) (((p.length : Nat) : Int)).toNat = some y := by rw [h]; exact nth_mid q y t
   by_cases hx : x = y
   · subst hx
     refine ⟨z, ob205 ?_, ?_⟩
     · simp only [b205, lt_mid, inb_mid, nth_mid, e1, e2, cond_true, bind_some, beq_self_eq_true, Bool.and_true, Bool.not_true, cond_false, next_mid p x hp]
       exact k1
     · rcases k2 with ⟨g, g2⟩ | ⟨g, g2⟩
       · exact .inl ⟨by rw [g], g2⟩
       · exact .inr ⟨by simpa using g, g2⟩
   · have hb : (x.1 == y.1 && x.2 == y.2) = false := by
      rw [Bool.and_eq_false_iff]
      by_cases h1 : x.1 = y.1
      · exact .inr (bf fun h2 => hx (Prod.ext h1 h2))
      · exact .inl (beq_eq_false_iff_ne.2 h1)
     refine ⟨.inl false, ob205 ?_, .inr ⟨by simp [hx], rfl⟩⟩
     simp only [b205, lt_mid, inb_mid, nth_mid, e1, e2, cond_true, bind_some, hb, Bool.not_false]
 | [], _ :: _, _, _, _, h, _ => by simp at h
 | _ :: _, [], _, _, _, h, _ => by simp at h
theorem sameP_eq {a b : List Pm} (h : a.length ≤ 1000000) : ∃ z, c152 T.rf a b = some z ∧ (z = true ↔ a = b) := by
 by_cases hl : a.length = b.length
 · obtain ⟨z, k1, k2⟩ := sameP_loop a b [] [] rfl hl (by simpa using h)
   simp only [List.nil_append, length_nil] at k1
   rw [show ((0 : Nat) : Int) = (0 : Int) from rfl] at k1
   rcases k2 with ⟨g, rfl⟩ | ⟨g, rfl⟩
   · exact ⟨true, or152 (by simp only [r152, nbt (show ((a.length : Nat) : Int) = ((b.length : Nat) : Int) by omega), cond_false, k1, bind_some]), by simp [g]⟩
   · exact ⟨false, or152 (by simp only [r152, nbt (show ((a.length : Nat) : Int) = ((b.length : Nat) : Int) by omega), cond_false, k1, bind_some]), by simp [g]⟩
 · exact ⟨false, or152 (by simp only [r152, nbf (show ((a.length : Nat) : Int) ≠ ((b.length : Nat) : Int) by omega), cond_true]), by
    constructor
    · intro h; cases h
    · intro h; subst h; exact absurd rfl hl⟩
theorem sameE_loop : ∀ (s t p q : List (List Nd)), p.length = q.length → s.length = t.length → (p ++ s).length ≤ 1000000 → (∀ y ∈ s, y.length ≤ 1000000) → (∀ y ∈ t, y.length ≤ 1000000) →
  ∃ z, k209 T.rb (p ++ s) (q ++ t) (p.length : Nat) = some z ∧ ((s = t ∧ z = .inr ()) ∨ (s ≠ t ∧ z = .inl false))
 | [], [], p, q, _, _, _, _, _ => ⟨.inr (), ob209 (by simp only [b209, lt_end, cond_false]), .inl ⟨rfl, rfl⟩⟩
 | x :: s, y :: t, p, q, h, h2, h3, hs, ht => by
   obtain ⟨z, k1, k2⟩ := sameE_loop s t (p ++ [x]) (q ++ [y]) (by simp [h]) (by simpa using h2) (by simpa using h3) (fun y h => hs y (List.mem_cons_of_mem _ h)) (fun y h => ht y (List.mem_cons_of_mem _ h))
   simp only [List.append_assoc, List.singleton_append] at k1
   have hp : p.length < 4611686018427387904 := by simp at h3; omega
   have e1 : inb ((p.length : Nat) : Int) (q ++ y :: t).length = true := by rw [h]; exact inb_mid q y t
   have e2 : nth (q ++ y :: t) (((p.length : Nat) : Int)).toNat = some y := by rw [h]; exact nth_mid q y t
   have hS := Same_eq (a := x) (b := y) (by have := hs x (by simp); omega) (by have := ht y (by simp); omega)
   by_cases hx : x = y
   · refine ⟨z, ob209 ?_, ?_⟩
     · simp only [b209, lt_mid, inb_mid, nth_mid, e1, e2, cond_true, bind_some, hS, dt hx, Bool.not_true, cond_false, next_mid p x hp]
       exact k1
     · rcases k2 with ⟨g, g2⟩ | ⟨g, g2⟩
       · exact .inl ⟨by rw [g, hx], g2⟩
       · exact .inr ⟨by simpa [hx] using g, g2⟩
   · refine ⟨.inl false, ob209 ?_, .inr ⟨by simp [hx], rfl⟩⟩
     simp only [b209, lt_mid, inb_mid, nth_mid, e1, e2, cond_true, bind_some, hS, df hx, Bool.not_false]
 | [], _ :: _, _, _, _, h, _, _, _ => by simp at h
 | _ :: _, [], _, _, _, h, _, _, _ => by simp at h
theorem sameE_eq {a b : List (List Nd)} (h : a.length ≤ 1000000) (ha : ∀ y ∈ a, y.length ≤ 1000000) (hb : ∀ y ∈ b, y.length ≤ 1000000) : ∃ z, c154 T.rf a b = some z ∧ (z = true ↔ a = b) := by
 by_cases hl : a.length = b.length
 · obtain ⟨z, k1, k2⟩ := sameE_loop a b [] [] rfl hl (by simpa using h) ha hb
   simp only [List.nil_append, length_nil] at k1
   rw [show ((0 : Nat) : Int) = (0 : Int) from rfl] at k1
   rcases k2 with ⟨g, rfl⟩ | ⟨g, rfl⟩
   · exact ⟨true, or154 (by simp only [r154, nbt (show ((a.length : Nat) : Int) = ((b.length : Nat) : Int) by omega), cond_false, k1, bind_some]), by simp [g]⟩
   · exact ⟨false, or154 (by simp only [r154, nbt (show ((a.length : Nat) : Int) = ((b.length : Nat) : Int) by omega), cond_false, k1, bind_some]), by simp [g]⟩
 · exact ⟨false, or154 (by simp only [r154, nbf (show ((a.length : Nat) : Int) ≠ ((b.length : Nat) : Int) by omega), cond_true]), by
    constructor
    · intro h; cases h
    · intro h; subst h; exact absurd rfl hl⟩
theorem no_iff {A : Type} {a b : A} {P : Prop} (hP : ¬ P) (h : a = b → P) : (false = true ↔ a = b) := ⟨fun h => Bool.noConfusion h, fun hh => absurd (h hh) hP⟩
theorem sameU0 (k k' : Bool) (nm nm' : Str) (i i' : List Pm) (o o' : Str) (ty ty' : Int) (v v' : List Pm) (xs xs' : List Itm) : ∀ (s t p q : List Eqn), p.length = q.length → s.length = t.length → (p ++ s).length ≤ 1000000 → (∀ y ∈ s, y.2.length ≤ 1000000) → (∀ y ∈ t, y.2.length ≤ 1000000) →
  ∃ z, k206 T.rb (k, nm, i, o, ty, v, p ++ s, xs) (k', nm', i', o', ty', v', q ++ t, xs') (p.length : Nat) = some z ∧ ((s = t ∧ z = .inr ((k, nm, i, o, ty, v, p ++ s, xs), (k', nm', i', o', ty', v', q ++ t, xs'))) ∨ (s ≠ t ∧ ∃ a b, z = .inl (a, b, false)))
 | [], [], p, q, _, _, _, _, _ => ⟨_, ob206 (by simp only [b206, lt_end, cond_false]), .inl ⟨rfl, rfl⟩⟩
 | x :: s, y :: t, p, q, h, h2, h3, hs, ht => by
   obtain ⟨z, k1, k2⟩ := sameU0 k k' nm nm' i i' o o' ty ty' v v' xs xs' s t (p ++ [x]) (q ++ [y]) (by simp [h]) (by simpa using h2) (by simpa using h3) (fun y h => hs y (List.mem_cons_of_mem _ h)) (fun y h => ht y (List.mem_cons_of_mem _ h))
   simp only [List.append_assoc, List.singleton_append] at k1 k2
   have hp : p.length < 4611686018427387904 := by simp at h3; omega
   have e1 : inb ((p.length : Nat) : Int) (q ++ y :: t).length = true := by rw [h]; exact inb_mid q y t
   have e2 : nth (q ++ y :: t) (((p.length : Nat) : Int)).toNat = some y := by rw [h]; exact nth_mid q y t
   have hS := Same_eq (a := x.2) (b := y.2) (by have := hs x (by simp); omega) (by have := ht y (by simp); omega)
   by_cases hn : x.1 = y.1
   · by_cases hx : x.2 = y.2
     · have hxy : x = y := Prod.ext hn hx
       refine ⟨z, ob206 ?_, ?_⟩
       · simp only [b206, lt_mid, inb_mid, nth_mid, e1, e2, cond_true, bind_some, beq_iff_eq.2 hn, Bool.not_true, cond_false, hS, dt hx, next_mid p x hp]
         exact k1
       · rcases k2 with ⟨g, g2⟩ | ⟨g, g2⟩
         · exact .inl ⟨by rw [g, hxy], g2⟩
         · exact .inr ⟨by simpa [hxy] using g, g2⟩
     · refine ⟨.inl ((k, nm, i, o, ty, v, p ++ x :: s, xs), (k', nm', i', o', ty', v', q ++ y :: t, xs'), false), ob206 ?_, .inr ⟨fun hh => hx (by cases hh; rfl), _, _, rfl⟩⟩
       simp only [b206, lt_mid, inb_mid, nth_mid, e1, e2, cond_true, bind_some, beq_iff_eq.2 hn, Bool.not_true, cond_false, hS, df hx, Bool.not_false]
   · refine ⟨.inl ((k, nm, i, o, ty, v, p ++ x :: s, xs), (k', nm', i', o', ty', v', q ++ y :: t, xs'), false), ob206 ?_, .inr ⟨fun hh => hn (by cases hh; rfl), _, _, rfl⟩⟩
     simp only [b206, lt_mid, inb_mid, nth_mid, e1, e2, cond_true, bind_some, beq_eq_false_iff_ne.2 hn, Bool.not_false]
 | [], _ :: _, _, _, _, h, _, _, _ => by simp at h
 | _ :: _, [], _, _, _, h, _, _, _ => by simp at h
theorem sameU2 {n m : Nat} (hnn : n ≤ 1000000) (hmm : m ≤ 1000000) (k k' : Bool) (nm nm' : Str) (i i' : List Pm) (o o' : Str) (ty ty' : Int) (v v' : List Pm) (qs qs' : List Eqn) : ∀ (s t p q : List Itm), p.length = q.length → s.length = t.length → (p ++ s).length ≤ 1000000 → (∀ y ∈ s, SzI n m y) → (∀ y ∈ t, SzI n m y) →
  ∃ z, k208 T.rb (k, nm, i, o, ty, v, qs, p ++ s) (k', nm', i', o', ty', v', qs', q ++ t) (p.length : Nat) = some z ∧ ((s = t ∧ ∃ a, z = .inr a) ∨ (s ≠ t ∧ ∃ a b, z = .inl (a, b, false)))
 | [], [], p, q, _, _, _, _, _ => ⟨_, ob208 (by simp only [b208, lt_end, cond_false]; rfl), .inl ⟨rfl, _, rfl⟩⟩
 | x :: s, y :: t, p, q, h, h2, h3, hs, ht => by
   obtain ⟨z, k1, k2⟩ := sameU2 hnn hmm k k' nm nm' i i' o o' ty ty' v v' qs qs' s t (p ++ [x]) (q ++ [y]) (by simp [h]) (by simpa using h2) (by simpa using h3) (fun y h => hs y (List.mem_cons_of_mem _ h)) (fun y h => ht y (List.mem_cons_of_mem _ h))
   simp only [List.append_assoc, List.singleton_append] at k1
   have hp : p.length < 4611686018427387904 := by simp at h3; omega
   have hx := hs x (by simp)
   have hy := ht y (by simp)
   have e1 : inb ((p.length : Nat) : Int) (q ++ y :: t).length = true := by rw [h]; exact inb_mid q y t
   have e2 : nth (q ++ y :: t) (((p.length : Nat) : Int)).toNat = some y := by rw [h]; exact nth_mid q y t
   have hE := Same_eq (a := x.2.2.2.1) (b := y.2.2.2.1) (by have := hx.e; omega) (by have := hy.e; omega)
   have hF := Same_eq (a := x.2.2.2.2.1) (b := y.2.2.2.2.1) (by have := hx.f; omega) (by have := hy.f; omega)
   obtain ⟨za, a1, a2⟩ := sameE_eq (a := x.2.2.2.2.2) (b := y.2.2.2.2.2) (Nat.le_trans hx.c hnn) (fun w hw => Nat.le_trans (hx.a w hw) hmm) (fun w hw => Nat.le_trans (hy.a w hw) hmm)
   by_cases c1 : x.1 = y.1
   case neg => exact ⟨_, ob208 (by simp only [b208, lt_mid, inb_mid, nth_mid, e1, e2, cond_true, bind_some, nbf c1]; rfl), .inr ⟨fun hh => c1 (by cases hh; rfl), _, _, rfl⟩⟩
   by_cases c2 : x.2.1 = y.2.1
   case neg => exact ⟨_, ob208 (by simp only [b208, lt_mid, inb_mid, nth_mid, e1, e2, cond_true, bind_some, nbt c1, cond_false, beq_eq_false_iff_ne.2 c2, Bool.not_false]; rfl), .inr ⟨fun hh => c2 (by cases hh; rfl), _, _, rfl⟩⟩
   by_cases c3 : x.2.2.1 = y.2.2.1
   case neg => exact ⟨_, ob208 (by simp only [b208, lt_mid, inb_mid, nth_mid, e1, e2, cond_true, bind_some, nbt c1, cond_false, beq_iff_eq.2 c2, Bool.not_true, nbf c3]; rfl), .inr ⟨fun hh => c3 (by cases hh; rfl), _, _, rfl⟩⟩
   by_cases c4 : x.2.2.2.1 = y.2.2.2.1
   case neg => exact ⟨_, ob208 (by simp only [b208, lt_mid, inb_mid, nth_mid, e1, e2, cond_true, bind_some, nbt c1, cond_false, beq_iff_eq.2 c2, Bool.not_true, nbt c3, hE, df c4, Bool.not_false]; rfl), .inr ⟨fun hh => c4 (by cases hh; rfl), _, _, rfl⟩⟩
   by_cases c5 : x.2.2.2.2.1 = y.2.2.2.2.1
   case neg => exact ⟨_, ob208 (by simp only [b208, lt_mid, inb_mid, nth_mid, e1, e2, cond_true, bind_some, nbt c1, cond_false, beq_iff_eq.2 c2, Bool.not_true, nbt c3, hE, dt c4, hF, df c5, Bool.not_false]; rfl), .inr ⟨fun hh => c5 (by cases hh; rfl), _, _, rfl⟩⟩
   cases za with
   | false =>
     have c6 : x.2.2.2.2.2 ≠ y.2.2.2.2.2 := fun hh => by have := a2.2 hh; cases this
     exact ⟨_, ob208 (by simp only [b208, lt_mid, inb_mid, nth_mid, e1, e2, cond_true, bind_some, nbt c1, cond_false, beq_iff_eq.2 c2, Bool.not_true, nbt c3, hE, dt c4, hF, dt c5, a1, Bool.not_false]; rfl), .inr ⟨fun hh => c6 (by cases hh; rfl), _, _, rfl⟩⟩
   | true =>
     have hxy : x = y := Prod.ext c1 (Prod.ext c2 (Prod.ext c3 (Prod.ext c4 (Prod.ext c5 (a2.1 rfl)))))
     refine ⟨z, ob208 ?_, ?_⟩
     · simp only [b208, lt_mid, inb_mid, nth_mid, e1, e2, cond_true, bind_some, nbt c1, cond_false, beq_iff_eq.2 c2, Bool.not_true, nbt c3, hE, dt c4, hF, dt c5, a1, next_mid p x hp]
       exact k1
     · rcases k2 with ⟨g, g2⟩ | ⟨g, g2⟩
       · exact .inl ⟨by rw [g, hxy], g2⟩
       · exact .inr ⟨by simpa [hxy] using g, g2⟩
 | [], _ :: _, _, _, _, h, _, _, _ => by simp at h
 | _ :: _, [], _, _, _, h, _, _, _ => by simp at h
theorem sameU_eq {n m : Nat} (hn : n ≤ 1000000) (hm : m ≤ 1000000) {a b : Unt} (ha : SzU n m a) (hb : SzU n m b) : ∃ z, c151 T.rf a b = some z ∧ (z = true ↔ a = b) := by
 obtain ⟨zi, i1, i2⟩ := sameP_eq (a := a.2.2.1) (b := b.2.2.1) (Nat.le_trans ha.i hn)
 obtain ⟨zv, v1, v2⟩ := sameP_eq (a := a.2.2.2.2.2.1) (b := b.2.2.2.2.2.1) (Nat.le_trans ha.v hn)
 by_cases c1 : a.1 = b.1
 case neg => exact ⟨false, or151 (by simp only [r151, beq_eq_false_iff_ne.2 c1, Bool.not_false, cond_true]), no_iff c1 (fun h => by rw [h])⟩
 by_cases c2 : a.2.1 = b.2.1
 case neg => exact ⟨false, or151 (by simp only [r151, beq_iff_eq.2 c1, Bool.not_true, cond_false, beq_eq_false_iff_ne.2 c2, Bool.not_false, cond_true]), no_iff c2 (fun h => by rw [h])⟩
 cases zi with
 | false => exact ⟨false, or151 (by simp only [r151, beq_iff_eq.2 c1, Bool.not_true, cond_false, beq_iff_eq.2 c2, i1, bind_some, Bool.not_false, cond_true]), no_iff (P := a.2.2.1 = b.2.2.1) (fun h => by have := i2.2 h; cases this) (fun h => by rw [h])⟩
 | true =>
 by_cases c3 : a.2.2.2.1 = b.2.2.2.1 ∧ a.2.2.2.2.1 = b.2.2.2.2.1
 case neg =>
  have hh : (a.2.2.2.1 == b.2.2.2.1 && a.2.2.2.2.1 == b.2.2.2.2.1) = false := by
   rw [Bool.and_eq_false_iff]
   by_cases h1 : a.2.2.2.1 = b.2.2.2.1
   · exact .inr (bf fun h2 => c3 ⟨h1, h2⟩)
   · exact .inl (beq_eq_false_iff_ne.2 h1)
  exact ⟨false, or151 (by simp only [r151, beq_iff_eq.2 c1, Bool.not_true, cond_false, beq_iff_eq.2 c2, i1, bind_some, hh, Bool.not_false, cond_true]), no_iff c3 (fun h => by rw [h]; exact ⟨rfl, rfl⟩)⟩
 have h3 : (a.2.2.2.1 == b.2.2.2.1 && a.2.2.2.2.1 == b.2.2.2.2.1) = true := by rw [beq_iff_eq.2 c3.1, bt c3.2]; rfl
 cases zv with
 | false => exact ⟨false, or151 (by simp only [r151, beq_iff_eq.2 c1, Bool.not_true, cond_false, beq_iff_eq.2 c2, i1, bind_some, h3, v1, Bool.not_false, cond_true]), no_iff (P := a.2.2.2.2.2.1 = b.2.2.2.2.2.1) (fun h => by have := v2.2 h; cases this) (fun h => by rw [h])⟩
 | true =>
 by_cases c4 : a.2.2.2.2.2.2.1.length = b.2.2.2.2.2.2.1.length
 case neg => exact ⟨false, or151 (by simp only [r151, beq_iff_eq.2 c1, Bool.not_true, cond_false, beq_iff_eq.2 c2, i1, bind_some, h3, v1, nbf (show ((a.2.2.2.2.2.2.1.length : Nat) : Int) ≠ ((b.2.2.2.2.2.2.1.length : Nat) : Int) by omega), cond_true]), no_iff c4 (fun h => by rw [h])⟩
 by_cases c5 : a.2.2.2.2.2.2.2.length = b.2.2.2.2.2.2.2.length
 case neg => exact ⟨false, or151 (by simp only [r151, beq_iff_eq.2 c1, Bool.not_true, cond_false, beq_iff_eq.2 c2, i1, bind_some, h3, v1, nbt (show ((a.2.2.2.2.2.2.1.length : Nat) : Int) = ((b.2.2.2.2.2.2.1.length : Nat) : Int) by omega), nbf (show ((a.2.2.2.2.2.2.2.length : Nat) : Int) ≠ ((b.2.2.2.2.2.2.2.length : Nat) : Int) by omega), cond_true]), no_iff c5 (fun h => by rw [h])⟩
 obtain ⟨z0, k1, k2⟩ := sameU0 a.1 b.1 a.2.1 b.2.1 a.2.2.1 b.2.2.1 a.2.2.2.1 b.2.2.2.1 a.2.2.2.2.1 b.2.2.2.2.1 a.2.2.2.2.2.1 b.2.2.2.2.2.1 a.2.2.2.2.2.2.2 b.2.2.2.2.2.2.2 a.2.2.2.2.2.2.1 b.2.2.2.2.2.2.1 [] [] rfl c4 (Nat.le_trans ha.q hn) (fun y h => Nat.le_trans (ha.qe y h) hm) (fun y h => Nat.le_trans (hb.qe y h) hm)
 obtain ⟨z2, l1, l2⟩ := sameU2 hn hm a.1 b.1 a.2.1 b.2.1 a.2.2.1 b.2.2.1 a.2.2.2.1 b.2.2.2.1 a.2.2.2.2.1 b.2.2.2.2.1 a.2.2.2.2.2.1 b.2.2.2.2.2.1 a.2.2.2.2.2.2.1 b.2.2.2.2.2.2.1 a.2.2.2.2.2.2.2 b.2.2.2.2.2.2.2 [] [] rfl c5 (Nat.le_trans ha.x hn) (fun y h => ha.xe y h) (fun y h => hb.xe y h)
 simp only [List.nil_append, length_nil] at k1 k2 l1
 rw [show ((0 : Nat) : Int) = (0 : Int) from rfl] at k1 l1
 have base : ∀ z, (k206 T.rb a b 0).bind (fun z3 => match z3 with
   | .inl u4 => some u4.2.2
   | .inr w5 => (k208 T.rb w5.1 w5.2 0).bind fun z6 => match z6 with
     | .inl u7 => some u7.2.2
     | .inr w8 => some true) = some z → c151 T.rf a b = some z := fun z hz => or151 (by
  simp only [r151, beq_iff_eq.2 c1, Bool.not_true, cond_false, beq_iff_eq.2 c2, i1, bind_some, h3, v1, nbt (show ((a.2.2.2.2.2.2.1.length : Nat) : Int) = ((b.2.2.2.2.2.2.1.length : Nat) : Int) by omega), nbt (show ((a.2.2.2.2.2.2.2.length : Nat) : Int) = ((b.2.2.2.2.2.2.2.length : Nat) : Int) by omega)]
  exact hz)
 rcases k2 with ⟨g, rfl⟩ | ⟨g, _, _, rfl⟩
 · rcases l2 with ⟨g', _, rfl⟩ | ⟨g', _, _, rfl⟩
   · exact ⟨true, base _ (by rw [k1, bind_some]; simp only; rw [l1, bind_some]), ⟨fun _ => Prod.ext c1 (Prod.ext c2 (Prod.ext (i2.1 rfl) (Prod.ext c3.1 (Prod.ext c3.2 (Prod.ext (v2.1 rfl) (Prod.ext g g')))))), fun _ => rfl⟩⟩
   · exact ⟨false, base _ (by rw [k1, bind_some]; simp only; rw [l1, bind_some]), no_iff g' (fun h => by rw [h])⟩
 · exact ⟨false, base _ (by rw [k1, bind_some]), no_iff g (fun h => by rw [h])⟩
theorem sameG0 {n m : Nat} (hnn : n ≤ 1000000) (hmm : m ≤ 1000000) (mn mn' bk bk' : Str) : ∀ (s t p q : List Unt), p.length = q.length → s.length = t.length → (p ++ s).length ≤ 1000000 → (∀ y ∈ s, SzU n m y) → (∀ y ∈ t, SzU n m y) →
  ∃ z, k204 T.rb (p ++ s, mn, bk) (q ++ t, mn', bk') (p.length : Nat) = some z ∧ ((s = t ∧ ∃ a, z = .inr a) ∨ (s ≠ t ∧ ∃ a b, z = .inl (a, b, false)))
 | [], [], p, q, _, _, _, _, _ => ⟨_, ob204 (by simp only [b204, lt_end, cond_false]; rfl), .inl ⟨rfl, _, rfl⟩⟩
 | x :: s, y :: t, p, q, h, h2, h3, hs, ht => by
   obtain ⟨z, k1, k2⟩ := sameG0 hnn hmm mn mn' bk bk' s t (p ++ [x]) (q ++ [y]) (by simp [h]) (by simpa using h2) (by simpa using h3) (fun y h => hs y (List.mem_cons_of_mem _ h)) (fun y h => ht y (List.mem_cons_of_mem _ h))
   simp only [List.append_assoc, List.singleton_append] at k1
   have hp : p.length < 4611686018427387904 := by simp at h3; omega
   have e1 : inb ((p.length : Nat) : Int) (q ++ y :: t).length = true := by rw [h]; exact inb_mid q y t
   have e2 : nth (q ++ y :: t) (((p.length : Nat) : Int)).toNat = some y := by rw [h]; exact nth_mid q y t
   obtain ⟨zu, a1, a2⟩ := sameU_eq hnn hmm (hs x (by simp)) (ht y (by simp))
   cases zu with
   | false =>
     have c6 : x ≠ y := fun hh => by have := a2.2 hh; cases this
     exact ⟨_, ob204 (by simp only [b204, lt_mid, inb_mid, nth_mid, e1, e2, cond_true, bind_some, a1, Bool.not_false]; rfl), .inr ⟨fun hh => c6 (by cases hh; rfl), _, _, rfl⟩⟩
   | true =>
     have hxy : x = y := a2.1 rfl
     refine ⟨z, ob204 ?_, ?_⟩
     · simp only [b204, lt_mid, inb_mid, nth_mid, e1, e2, cond_true, bind_some, a1, Bool.not_true, cond_false, next_mid p x hp]
       exact k1
     · rcases k2 with ⟨g, g2⟩ | ⟨g, g2⟩
       · exact .inl ⟨by rw [g, hxy], g2⟩
       · exact .inr ⟨by simpa [hxy] using g, g2⟩
 | [], _ :: _, _, _, _, h, _, _, _ => by simp at h
 | _ :: _, [], _, _, _, h, _, _, _ => by simp at h
theorem SameG {n m : Nat} (hn : n ≤ 1000000) (hm : m ≤ 1000000) {a b : Prg} (ha : SzP n m a) (hb : SzP n m b) : ∃ z, c150 T.rf a b = some z ∧ (z = true ↔ a = b) := by
 by_cases c1 : a.2.1 = b.2.1
 case neg => exact ⟨false, or150 (by simp only [r150, beq_eq_false_iff_ne.2 c1, Bool.not_false, cond_true]), no_iff c1 (fun h => by rw [h])⟩
 by_cases c2 : a.2.2 = b.2.2
 case neg => exact ⟨false, or150 (by simp only [r150, beq_iff_eq.2 c1, Bool.not_true, cond_false, beq_eq_false_iff_ne.2 c2, Bool.not_false, cond_true]), no_iff c2 (fun h => by rw [h])⟩
 by_cases c3 : a.1.length = b.1.length
 case neg => exact ⟨false, or150 (by simp only [r150, beq_iff_eq.2 c1, Bool.not_true, cond_false, beq_iff_eq.2 c2, nbf (show ((a.1.length : Nat) : Int) ≠ ((b.1.length : Nat) : Int) by omega), cond_true]), no_iff c3 (fun h => by rw [h])⟩
 obtain ⟨z0, k1, k2⟩ := sameG0 hn hm a.2.1 b.2.1 a.2.2 b.2.2 a.1 b.1 [] [] rfl c3 (Nat.le_trans ha.c hn) (fun y h => ha.u y h) (fun y h => hb.u y h)
 simp only [List.nil_append, length_nil] at k1
 rw [show ((0 : Nat) : Int) = (0 : Int) from rfl] at k1
 have hl := nbt (show ((a.1.length : Nat) : Int) = ((b.1.length : Nat) : Int) by omega)
 rcases k2 with ⟨g, _, rfl⟩ | ⟨g, _, _, rfl⟩
 · exact ⟨true, or150 (by simp only [r150, beq_iff_eq.2 c1, Bool.not_true, cond_false, beq_iff_eq.2 c2, hl, k1, bind_some]), ⟨fun _ => Prod.ext g (Prod.ext c1 c2), fun _ => rfl⟩⟩
 · exact ⟨false, or150 (by simp only [r150, beq_iff_eq.2 c1, Bool.not_true, cond_false, beq_iff_eq.2 c2, hl, k1, bind_some]), no_iff g (fun h => by rw [h])⟩
end Go.Proofs.YtlobhcgbmpcdlaaGreatDoor.R
