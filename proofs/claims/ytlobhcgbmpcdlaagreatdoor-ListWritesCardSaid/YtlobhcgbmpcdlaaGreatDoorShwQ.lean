import Derived.Test.YtlobhcgbmpcdlaaGreatDoorShwP
namespace Go.Proofs.YtlobhcgbmpcdlaaGreatDoor.R
open Go Go.Bm Go.Proofs
set_option linter.unusedVariables false
set_option linter.unusedSimpArgs false
set_option maxRecDepth 4000
def lvl (s : Str) : Int :=
 if s = [45, 62] then 1 else if s = [61, 62] then 2 else if s = [115, 105, 110, 99, 101] then 3 else if s = [111, 114] ∨ s = [120, 111, 114] then 4 else if s = [97, 110, 100] then 5 else
 if s = [61] ∨ s = [60, 62] ∨ s = [60] ∨ s = [60, 61] ∨ s = [62] ∨ s = [62, 61] then 6 else if s = [43] ∨ s = [45] then 7 else if s = [42] ∨ s = [100, 105, 118] ∨ s = [109, 111, 100] then 8 else if s = [40] then 9 else 0
def nxt (L : List s4) (i : Nat) : Int := match nth L i with
 | some x => if x.1 = 4 ∨ x.1 = 3 then lvl x.2.1 else 0
 | none => 0
theorem b3w {L : List s4} {i : Nat} {s : Str} (h : isB L i s = true) : nxt L i = lvl s := by
 unfold isB at h
 unfold nxt
 split at h
 · rename_i x hx
   rw [hx]
   simp only [Bool.and_eq_true, Bool.or_eq_true, beq_iff_eq] at h
   simp only
   rw [if_pos h.1, h.2]
 · cases h
theorem b2l {L : List s4} {i : Nat} {s : Str} (h : nxt L i < lvl s) : isB L i s = false := by
 cases hb : isB L i s with
 | false => rfl
 | true => have := b3w hb; omega
theorem b3x {L : List s4} {i : Nat} {u : Str} {a : Int} (h : nth L i = some (a6R u, u, a)) (hk : a6R u = 4 ∨ a6R u = 3) (s : Str) : isB L i s = (u == s) := by
 unfold isB
 rw [h]
 simp only
 rcases hk with hk | hk <;> rw [hk] <;> rfl
theorem c6k {l : Nat} (hl : LA l) {L : List s4} {i : Nat} (h : nxt L i < (l : Int)) : opq l L i = none := by
 have b : ∀ s : Str, lvl s = (l : Int) → isB L i s = false := fun s hs => b2l (by rw [hs]; exact h)
 rcases hl with rfl | rfl | rfl | rfl | rfl
 · simp only [opq, b [115, 105, 110, 99, 101] (by decide), cond_false]
 · simp only [opq, b [120, 111, 114] (by decide), b [111, 114] (by decide), cond_false]
 · simp only [opq, b [97, 110, 100] (by decide), cond_false]
 · simp only [opq, b [45] (by decide), b [43] (by decide), cond_false]
 · simp only [opq, b [109, 111, 100] (by decide), b [100, 105, 118] (by decide), b [42] (by decide), cond_false]
theorem c0B {p : Nat} (hp : p = 1 ∨ p = 2) {L : List s4} {i : Nat} (h : nxt L i < (p : Int)) : b5h p L i = none := by
 have b : ∀ s : Str, lvl s = (p : Int) → isB L i s = false := fun s hs => b2l (by rw [hs]; exact h)
 rcases hp with rfl | rfl
 · simp only [b5h, b [45, 62] (by decide), cond_false]
 · simp only [b5h, b [61, 62] (by decide), cond_false]
theorem c0D {L : List s4} {i : Nat} (h : nxt L i < 6) : c0C L i = none := by
 have b : ∀ s : Str, lvl s = 6 → isB L i s = false := fun s hs => b2l (by rw [hs]; exact h)
 simp only [c0C, b [61] (by decide), b [60, 62] (by decide), b [60] (by decide), b [60, 61] (by decide), b [62] (by decide), b [62, 61] (by decide), cond_false]
theorem c1y {p : Nat} (h1 : 1 ≤ p) (h8 : p ≤ 8) {r : RS} {L : List s4} {j : Nat} (hj : j ≤ 2000000000) {o : Int} {v : List Nd} (h : rd (p + 1) r = some (((L, ((j : Nat) : Int), o, (0 : Int), (0 : Int)) : RS), v)) (hn : nxt L j < (p : Int)) : rd p r = some (((L, ((j : Nat) : Int), o, (0 : Int), (0 : Int)) : RS), v) := by
 by_cases hp : p = 1 ∨ p = 2
 · exact d6p hp hj h (by rw [c0B hp hn])
 by_cases h6 : p = 6
 · subst h6
   exact rd6 hj h (by rw [c0D hn])
 have hl : LA p := by unfold LA; omega
 exact c4Q hl h (c0s hl hj (by rw [c6k hl hn]))
theorem b1n {r : RS} {L : List s4} {j : Nat} (hj : j ≤ 2000000000) {o : Int} {v : List Nd} : ∀ (m p q : Nat), q ≤ p + m → 1 ≤ p → p ≤ q → q ≤ 9 → rd q r = some (((L, ((j : Nat) : Int), o, (0 : Int), (0 : Int)) : RS), v) → nxt L j < (p : Int) → rd p r = some (((L, ((j : Nat) : Int), o, (0 : Int), (0 : Int)) : RS), v) := by
 intro m
 induction m with
 | zero => intro p q h1 h2 h3 h4 h5 h6; have : p = q := by omega
           subst this; exact h5
 | succ m ih =>
   intro p q h1 h2 h3 h4 h5 h6
   by_cases hpq : p = q
   · subst hpq; exact h5
   · exact c1y h2 (by omega) hj (ih (p + 1) q (by omega) (by omega) (by omega) h4 h5 (by omega)) h6
theorem both {L : List s4} {k j : Nat} (hj : j ≤ 2000000000) {o : Int} {v : List Nd} {q : Nat} (q1 : 1 ≤ q) (q9 : q ≤ 9) (h1 : nxt L j < (q : Int) → rd q ((L, ((k : Nat) : Int), o, (0 : Int), (0 : Int)) : RS) = some (((L, ((j : Nat) : Int), o, (0 : Int), (0 : Int)) : RS), v))
  (h2 : LA q → nxt L j < (q : Int) + 1 → ∀ y, lp q ((L, ((j : Nat) : Int), o, (0 : Int), (0 : Int)) : RS) v = some y → rd q ((L, ((k : Nat) : Int), o, (0 : Int), (0 : Int)) : RS) = some y) :
  (∀ p : Nat, 1 ≤ p → p ≤ q → nxt L j < (p : Int) → rd p ((L, ((k : Nat) : Int), o, (0 : Int), (0 : Int)) : RS) = some (((L, ((j : Nat) : Int), o, (0 : Int), (0 : Int)) : RS), v)) ∧
  (∀ l : Nat, LA l → l ≤ q → nxt L j < (l : Int) + 1 → ∀ y, lp l ((L, ((j : Nat) : Int), o, (0 : Int), (0 : Int)) : RS) v = some y → rd l ((L, ((k : Nat) : Int), o, (0 : Int), (0 : Int)) : RS) = some y) := by
 refine ⟨fun p hp1 hp2 hn => b1n hj q p q (by omega) hp1 hp2 q9 (h1 (by omega)) hn, fun l hl hlq hn y hy => ?_⟩
 by_cases he : l = q
 · subst he; exact h2 hl hn y hy
 · exact c4Q hl (b1n hj q (l + 1) q (by omega) (by omega) (by omega) q9 (h1 (by omega)) (by omega)) hy
theorem b7K {α : Type} {l : List α} {i : Nat} {x : α} (h : nth l i = some x) : i < l.length := by
 rw [nth_getElem?] at h; exact (List.getElem?_eq_some_iff.1 h).1
theorem b2C {L : List s4} {k j : Nat} {o : Int} {x : s4} {v : List Nd} (hx : nth L k = some x) (h0 : 0 ≤ o) (h199 : o ≤ 199) (h : c46 T.rf ((L, ((k : Nat) : Int), o + 1, (0 : Int), (0 : Int)) : RS) x = some (((L, ((j : Nat) : Int), o + 1, (0 : Int), (0 : Int)) : RS), v)) : rd 9 ((L, ((k : Nat) : Int), o, (0 : Int), (0 : Int)) : RS) = some (((L, ((j : Nat) : Int), o, (0 : Int), (0 : Int)) : RS), v) := d5y (by
 have hk := b7K hx
 have e1 : IntKind.i64.wrap (o + 1) = o + 1 := wr (by omega)
 have e2 : IntKind.i64.wrap (o + 1 - 1) = o := by rw [wr (by omega)]; omega
 simp only [r44, z0, cond_false, df (show ¬ o ≥ 200 by omega), df (show ¬ ((k : Nat) : Int) ≥ ((L.length : Nat) : Int) by omega), D1 (show (0 : Int) ≤ ((k : Nat) : Int) by omega) (show ((k : Nat) : Int) < ((L.length : Nat) : Int) by omega), cond_true, Int.toNat_natCast, hx, Option.bind_some, e1, h, e2])
theorem d2e : c58 T.rf [40] = some 0 := d5J rfl
theorem d0r : a6R [40] = 4 := by decide +kernel
theorem d5f : a6R [41] = 4 := by decide +kernel
theorem b4B {L : List s4} {k j : Nat} {o a : Int} {v : List Nd} (hj : j ≤ 2000000000) (hx : nth L k = some (a6R [40], [40], a)) (h : rd 1 ((L, ((k + 1 : Nat) : Int), o, (0 : Int), (0 : Int)) : RS) = some (((L, ((j : Nat) : Int), o, (0 : Int), (0 : Int)) : RS), v)) (hc : isB L j [41] = true) : c5v L k o [40] = some (((L, ((j + 1 : Nat) : Int), o, (0 : Int), (0 : Int)) : RS), v) := by
 have b := b3x hx (.inl d0r)
 simp only [rd] at h
 simp only [c5v, d2e, Option.bind_some, b]
 rw [show ((0 : Int) == 25) = false from rfl, show decide ((0 : Int) > 0) = false from rfl, show (([40] : Str) == [116, 114, 117, 101]) = false from rfl, show (([40] : Str) == [102, 97, 108, 115, 101]) = false from rfl, show (([40] : Str) == [40]) = true from rfl]
 simp only [cond_true, cond_false, h, Option.bind_some, c0u hj o hc]
def Par (t : Tr) : Prop := ∀ (L : List s4) (k : Nat) (o : Int), L.length ≤ 1000000000 → Reads L k (j9 t) → 0 ≤ o → o + 2 * dep t ≤ 201 →
 (∀ p : Nat, 1 ≤ p → p ≤ 9 → (p = 1 ∨ (p : Int) ≤ lvX t.op) → nxt L (k + (j9 t).length) < (p : Int) → rd p ((L, ((k : Nat) : Int), o, (0 : Int), (0 : Int)) : RS) = some (((L, ((k + (j9 t).length : Nat) : Int), o, (0 : Int), (0 : Int)) : RS), flat t 0)) ∧
 (∀ l : Nat, LA l → (l : Int) ≤ lvX t.op → nxt L (k + (j9 t).length) < (l : Int) + 1 → ∀ y, lp l ((L, ((k + (j9 t).length : Nat) : Int), o, (0 : Int), (0 : Int)) : RS) (flat t 0) = some y → rd l ((L, ((k : Nat) : Int), o, (0 : Int), (0 : Int)) : RS) = some y)
theorem Par.part {x : Tr} (h : Par x) (hlen : 1 ≤ (j9 x).length) {L : List s4} (hL : L.length ≤ 1000000000) {k a : Nat} (a1 : 1 ≤ a) (a9 : a ≤ 9) {o : Int} (h0 : 0 ≤ o) (ho : o + 2 * dep x ≤ 200) (hr : Reads L k (n0 a (x.op, j9 x))) :
  (nxt L (k + (n0 a (x.op, j9 x)).length) < (a : Int) → rd a ((L, ((k : Nat) : Int), o, (0 : Int), (0 : Int)) : RS) = some (((L, ((k + (n0 a (x.op, j9 x)).length : Nat) : Int), o, (0 : Int), (0 : Int)) : RS), flat x 0)) ∧
  (LA a → nxt L (k + (n0 a (x.op, j9 x)).length) < (a : Int) + 1 → ∀ y, lp a ((L, ((k + (n0 a (x.op, j9 x)).length : Nat) : Int), o, (0 : Int), (0 : Int)) : RS) (flat x 0) = some y → rd a ((L, ((k : Nat) : Int), o, (0 : Int), (0 : Int)) : RS) = some y) := by
 have hd := b9S x
 by_cases hc : (D2 x.op).2 ≥ (a : Int)
 · have e : n0 a (x.op, j9 x) = j9 x := by unfold n0; rw [if_pos hc]
   rw [e] at hr ⊢
   obtain ⟨h1, h2⟩ := h L k o hL hr h0 (by omega)
   exact ⟨fun hn => h1 a a1 a9 (.inr hc) hn, fun hl hn y hy => h2 a hl hc hn y hy⟩
 · have e : n0 a (x.op, j9 x) = [40] :: (j9 x ++ [[41]]) := by unfold n0; rw [if_neg hc]
   rw [e] at hr ⊢
   obtain ⟨⟨b, hb⟩, hr2⟩ := hr
   obtain ⟨hr3, ⟨b', hb'⟩, _⟩ := a8m.1 hr2
   have hlen2 := b7K hb'
   have hjc := b3x hb' (.inl d5f) [41]
   rw [show (([41] : Str) == [41]) = true from rfl] at hjc
   have hnx := b3w hjc
   rw [show lvl [41] = 0 by decide] at hnx
   have hA := (h L (k + 1) (o + 1) hL hr3 (by omega) (by omega)).1 1 (by omega) (by omega) (.inl rfl) (by omega)
   have h9 : rd 9 ((L, ((k : Nat) : Int), o, (0 : Int), (0 : Int)) : RS) = some (((L, ((k + 1 + (j9 x).length + 1 : Nat) : Int), o, (0 : Int), (0 : Int)) : RS), flat x 0) := b2C hb h0 (by omega) (b2b (by omega) (.inl d0r) (b4B (by omega) hb hA hjc))
   have el : k + ([40] :: (j9 x ++ [[41]])).length = k + 1 + (j9 x).length + 1 := by simp only [List.length_cons, List.length_append, List.length_nil]; omega
   rw [el]
   obtain ⟨g1, g2⟩ := both (q := 9) (L := L) (k := k) (j := k + 1 + (j9 x).length + 1) (o := o) (v := flat x 0) (by omega) (by omega) (by omega) (fun _ => h9) (fun hl => by unfold LA at hl; omega)
   exact ⟨fun hn => g1 a a1 a9 hn, fun hl hn y hy => g2 a hl a9 hn y hy⟩
end Go.Proofs.YtlobhcgbmpcdlaaGreatDoor.R
