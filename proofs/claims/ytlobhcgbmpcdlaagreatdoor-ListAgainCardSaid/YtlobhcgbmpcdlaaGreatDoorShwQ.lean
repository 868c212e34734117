import Derived.Test.YtlobhcgbmpcdlaaGreatDoorShwP
open Bool (and_eq_true)
namespace Go.Proofs.YtlobhcgbmpcdlaaGreatDoor.R
open Go Go.Bm Go.Proofs
set_option linter.unusedVariables false
set_option linter.unusedSimpArgs false
set_option maxRecDepth 4000
def lvl (s : Str) : Int :=
 if s = [45, 62] then 1 else if s = [61, 62] then 2 else if s = [115, 105, 110, 99, 101] then 3 else if s = [111, 114] ∨ s = [120, 111, 114] then 4 else if s = [97, 110, 100] then 5 else
 if s = [61] ∨ s = [60, 62] ∨ s = [60] ∨ s = [60, 61] ∨ s = [62] ∨ s = [62, 61] then 6 else if s = [43] ∨ s = [45] then 7 else if s = [42] ∨ s = [100, 105, 118] ∨ s = [109, 111, 100] then 8 else if s = [40] then 9 else 0
def nxt (L : List m7) (i : Nat) : Int := match nth L i with
 | some x => if x.1 = 4 ∨ x.1 = 3 then lvl x.2.1 else 0
 | none => 0
theorem a1g {L : List m7} {i : Nat} {s : Str} (h : isB L i s = true) : nxt L i = lvl s := by
 unfold isB at h
 unfold nxt
 split at h
 · rename_i x hx
   rw [hx]
   simp only [and_eq_true, Bool.or_eq_true, beq_iff_eq] at h
   simp only
   rw [if_pos h.1, h.2]
 · cases h
theorem b0V {L : List m7} {i : Nat} {s : Str} (h : nxt L i < lvl s) : isB L i s = false := by
 cases hb : isB L i s with
 | false => rfl
 | true => have := a1g hb; omega
theorem l0 {L : List m7} {i : Nat} {u : Str} {a : Int} (h : nth L i = some (p7 u, u, a)) (hk : p7 u = 4 ∨ p7 u = 3) (s : Str) : isB L i s = (u == s) := by
 unfold isB
 rw [h]
 simp only
 rcases hk with hk | hk <;> rw [hk] <;> rfl
theorem a0g {L : List m7} {i : Nat} {u : Str} {a : Int} (h : nth L i = some (p7 u, u, a)) (hk : p7 u = 4 ∨ p7 u = 3) : nxt L i = lvl u := by
 unfold nxt
 rw [h]
 simp only
 rw [if_pos hk]
theorem b8D : ∀ k, k < 27 → 4 ≤ k → p7 (a4J.getD k ([], -1)).1 = 4 ∨ p7 (a4J.getD k ([], -1)).1 = 3 := by decide +kernel
theorem a6S {op : Int} (h : 4 ≤ op ∧ op ≤ 26) : p7 (opX op) = 4 ∨ p7 (opX op) = 3 := by
 have h1 : opX op = (a4J.getD op.toNat ([], -1)).1 := by unfold opX O7; rw [if_pos (by omega)]
 rw [h1]
 exact b8D _ (by omega) (by omega)
theorem c5A {op : Int} (h : 6 ≤ op ∧ op ≤ 20) : lvl (opX op) = lvX op := by
 have : op = 6 ∨ op = 7 ∨ op = 8 ∨ op = 9 ∨ op = 10 ∨ op = 11 ∨ op = 12 ∨ op = 13 ∨ op = 14 ∨ op = 15 ∨ op = 16 ∨ op = 17 ∨ op = 18 ∨ op = 19 ∨ op = 20 := by omega
 rcases this with rfl | rfl | rfl | rfl | rfl | rfl | rfl | rfl | rfl | rfl | rfl | rfl | rfl | rfl | rfl <;> decide +kernel
theorem b9g {l : Nat} (hl : LA l) {L : List m7} {i : Nat} (h : nxt L i < (l : Int)) : opq l L i = none := by
 have b : ∀ s : Str, lvl s = (l : Int) → isB L i s = false := fun s hs => b0V (by rw [hs]; exact h)
 rcases hl with rfl | rfl | rfl | rfl | rfl
 · simp only [opq, b [115, 105, 110, 99, 101] (by decide), cond_false]
 · simp only [opq, b [120, 111, 114] (by decide), b [111, 114] (by decide), cond_false]
 · simp only [opq, b [97, 110, 100] (by decide), cond_false]
 · simp only [opq, b [45] (by decide), b [43] (by decide), cond_false]
 · simp only [opq, b [109, 111, 100] (by decide), b [100, 105, 118] (by decide), b [42] (by decide), cond_false]
theorem c1m {p : Nat} (hp : p = 1 ∨ p = 2) {L : List m7} {i : Nat} (h : nxt L i < (p : Int)) : a6G p L i = none := by
 have b : ∀ s : Str, lvl s = (p : Int) → isB L i s = false := fun s hs => b0V (by rw [hs]; exact h)
 rcases hp with rfl | rfl
 · simp only [a6G, b [45, 62] (by decide), cond_false]
 · simp only [a6G, b [61, 62] (by decide), cond_false]
theorem c1n {L : List m7} {i : Nat} (h : nxt L i < 6) : a6H L i = none := by
 have b : ∀ s : Str, lvl s = 6 → isB L i s = false := fun s hs => b0V (by rw [hs]; exact h)
 simp only [a6H, b [61] (by decide), b [60, 62] (by decide), b [60] (by decide), b [60, 61] (by decide), b [62] (by decide), b [62, 61] (by decide), cond_false]
theorem c5Q {op : Int} (h : 6 ≤ op ∧ op ≤ 20) {L : List m7} {i : Nat} {a : Int} (ht : nth L i = some (p7 (opX op), opX op, a)) :
  ∃ l : Nat, lvX op = (l : Int) ∧ ((LA l ∧ opq l L i = some op) ∨ ((l = 1 ∨ l = 2) ∧ a6G l L i = some op) ∨ (l = 6 ∧ a6H L i = some (op, false))) := by
 have b := l0 ht (a6S (by omega))
 have : op = 6 ∨ op = 7 ∨ op = 8 ∨ op = 9 ∨ op = 10 ∨ op = 11 ∨ op = 12 ∨ op = 13 ∨ op = 14 ∨ op = 15 ∨ op = 16 ∨ op = 17 ∨ op = 18 ∨ op = 19 ∨ op = 20 := by omega
 rcases this with rfl | rfl | rfl | rfl | rfl | rfl | rfl | rfl | rfl | rfl | rfl | rfl | rfl | rfl | rfl
 · exact ⟨5, by decide, .inl ⟨by unfold LA; omega, by simp only [opq, b]; rfl⟩⟩
 · exact ⟨4, by decide, .inl ⟨by unfold LA; omega, by simp only [opq, b]; rfl⟩⟩
 · exact ⟨4, by decide, .inl ⟨by unfold LA; omega, by simp only [opq, b]; rfl⟩⟩
 · exact ⟨2, by decide, .inr (.inl ⟨.inr rfl, by simp only [a6G, b]; rfl⟩)⟩
 · exact ⟨6, by decide, .inr (.inr ⟨rfl, by simp only [a6H, b]; rfl⟩)⟩
 · exact ⟨6, by decide, .inr (.inr ⟨rfl, by simp only [a6H, b]; rfl⟩)⟩
 · exact ⟨6, by decide, .inr (.inr ⟨rfl, by simp only [a6H, b]; rfl⟩)⟩
 · exact ⟨6, by decide, .inr (.inr ⟨rfl, by simp only [a6H, b]; rfl⟩)⟩
 · exact ⟨7, by decide, .inl ⟨by unfold LA; omega, by simp only [opq, b]; rfl⟩⟩
 · exact ⟨7, by decide, .inl ⟨by unfold LA; omega, by simp only [opq, b]; rfl⟩⟩
 · exact ⟨8, by decide, .inl ⟨by unfold LA; omega, by simp only [opq, b]; rfl⟩⟩
 · exact ⟨8, by decide, .inl ⟨by unfold LA; omega, by simp only [opq, b]; rfl⟩⟩
 · exact ⟨8, by decide, .inl ⟨by unfold LA; omega, by simp only [opq, b]; rfl⟩⟩
 · exact ⟨1, by decide, .inr (.inl ⟨.inl rfl, by simp only [a6G, b]; rfl⟩)⟩
 · exact ⟨3, by decide, .inl ⟨by unfold LA; omega, by simp only [opq, b]; rfl⟩⟩
theorem c1W {p : Nat} (h1 : 1 ≤ p) (h8 : p ≤ 8) {r : RS} {L : List m7} {j : Nat} (hj : j ≤ 2000000000) {o : Int} {v : List Nd} (h : rd (p + 1) r = some (((L, ((j : Nat) : Int), o, (0 : Int), (0 : Int)) : RS), v)) (hn : nxt L j < (p : Int)) : rd p r = some (((L, ((j : Nat) : Int), o, (0 : Int), (0 : Int)) : RS), v) := by
 by_cases hp : p = 1 ∨ p = 2
 · exact b9D hp hj h (by rw [c1m hp hn])
 by_cases h6 : p = 6
 · subst h6
   exact rd6 hj h (by rw [c1n hn])
 have hl : LA p := by unfold LA; omega
 exact a4N hl h (a1j hl hj (by rw [b9g hl hn]))
theorem a8x {r : RS} {L : List m7} {j : Nat} (hj : j ≤ 2000000000) {o : Int} {v : List Nd} : ∀ (m p q : Nat), q ≤ p + m → 1 ≤ p → p ≤ q → q ≤ 9 → rd q r = some (((L, ((j : Nat) : Int), o, (0 : Int), (0 : Int)) : RS), v) → nxt L j < (p : Int) → rd p r = some (((L, ((j : Nat) : Int), o, (0 : Int), (0 : Int)) : RS), v) := by
 intro m
 induction m with
 | zero => intro p q h1 h2 h3 h4 h5 h6; have : p = q := by omega
           subst this; exact h5
 | succ m ih =>
   intro p q h1 h2 h3 h4 h5 h6
   by_cases hpq : p = q
   · subst hpq; exact h5
   · exact c1W h2 (by omega) hj (ih (p + 1) q (by omega) (by omega) (by omega) h4 h5 (by omega)) h6
theorem both {L : List m7} {k j : Nat} (hj : j ≤ 2000000000) {o : Int} {v : List Nd} {q : Nat} (q1 : 1 ≤ q) (q9 : q ≤ 9) (h1 : nxt L j < (q : Int) → rd q ((L, ((k : Nat) : Int), o, (0 : Int), (0 : Int)) : RS) = some (((L, ((j : Nat) : Int), o, (0 : Int), (0 : Int)) : RS), v))
  (h2 : LA q → nxt L j < (q : Int) + 1 → ∀ y, lp q ((L, ((j : Nat) : Int), o, (0 : Int), (0 : Int)) : RS) v = some y → rd q ((L, ((k : Nat) : Int), o, (0 : Int), (0 : Int)) : RS) = some y) :
  (∀ p : Nat, 1 ≤ p → p ≤ q → nxt L j < (p : Int) → rd p ((L, ((k : Nat) : Int), o, (0 : Int), (0 : Int)) : RS) = some (((L, ((j : Nat) : Int), o, (0 : Int), (0 : Int)) : RS), v)) ∧
  (∀ l : Nat, LA l → l ≤ q → nxt L j < (l : Int) + 1 → ∀ y, lp l ((L, ((j : Nat) : Int), o, (0 : Int), (0 : Int)) : RS) v = some y → rd l ((L, ((k : Nat) : Int), o, (0 : Int), (0 : Int)) : RS) = some y) := by
 refine ⟨fun p hp1 hp2 hn => a8x hj q p q (by omega) hp1 hp2 q9 (h1 (by omega)) hn, fun l hl hlq hn y hy => ?_⟩
 by_cases he : l = q
 · subst he; exact h2 hl hn y hy
 · exact a4N hl (a8x hj q (l + 1) q (by omega) (by omega) (by omega) q9 (h1 (by omega)) (by omega)) hy
theorem C0 {α : Type} {l : List α} {i : Nat} {x : α} (h : nth l i = some x) : i < l.length := by
 rw [nth_getElem?] at h; exact (List.getElem?_eq_some_iff.1 h).1
theorem G2 {L : List m7} : ∀ {ts : List Str} {k : Nat}, Reads L k ts → 1 ≤ ts.length → k + ts.length ≤ L.length
 | [], _, _, h => by simp at h
 | [s], k, ⟨⟨a, h⟩, _⟩, _ => C0 h
 | s :: s' :: r, k, ⟨_, h2⟩, _ => by
   have := G2 h2 (by simp)
   simp only [List.length_cons] at this ⊢
   omega
theorem K0 {L : List m7} {k j : Nat} {o : Int} {x : m7} {v : List Nd} (hx : nth L k = some x) (h0 : 0 ≤ o) (h199 : o ≤ 199) (h : c46 T.rf ((L, ((k : Nat) : Int), o + 1, (0 : Int), (0 : Int)) : RS) x = some (((L, ((j : Nat) : Int), o + 1, (0 : Int), (0 : Int)) : RS), v)) : rd 9 ((L, ((k : Nat) : Int), o, (0 : Int), (0 : Int)) : RS) = some (((L, ((j : Nat) : Int), o, (0 : Int), (0 : Int)) : RS), v) := b9i (by
 have hk := C0 hx
 have e1 : IntKind.i64.wrap (o + 1) = o + 1 := wr (by omega)
 have e2 : IntKind.i64.wrap (o + 1 - 1) = o := by rw [wr (by omega)]; omega
 simp only [r44, z0, cond_false, df (show ¬ o ≥ 200 by omega), df (show ¬ ((k : Nat) : Int) ≥ ((L.length : Nat) : Int) by omega), D2 (show (0 : Int) ≤ ((k : Nat) : Int) by omega) (show ((k : Nat) : Int) < ((L.length : Nat) : Int) by omega), cond_true, Int.toNat_natCast, hx, Option.bind_some, e1, h, e2])
theorem d2N : c58 T.rf [40] = some 0 := b6L rfl
theorem b3Q : p7 [40] = 4 := by decide +kernel
theorem b0X : p7 [41] = 4 := by decide +kernel
theorem c5x : p7 [44] = 4 := by decide +kernel
theorem b6b {L : List m7} {k j : Nat} {o a : Int} {v : List Nd} (hj : j ≤ 2000000000) (hx : nth L k = some (p7 [40], [40], a)) (h : rd 1 ((L, ((k + 1 : Nat) : Int), o, (0 : Int), (0 : Int)) : RS) = some (((L, ((j : Nat) : Int), o, (0 : Int), (0 : Int)) : RS), v)) (hc : isB L j [41] = true) : a3L L k o [40] = some (((L, ((j + 1 : Nat) : Int), o, (0 : Int), (0 : Int)) : RS), v) := by
 have b := l0 hx (.inl b3Q)
 simp only [rd] at h
 simp only [a3L, d2N, Option.bind_some, b]
 rw [show ((0 : Int) == 25) = false from rfl, show decide ((0 : Int) > 0) = false from rfl, show (([40] : Str) == [116, 114, 117, 101]) = false from rfl, show (([40] : Str) == [102, 97, 108, 115, 101]) = false from rfl, show (([40] : Str) == [40]) = true from rfl]
 simp only [cond_true, cond_false, h, Option.bind_some, a4G hj o hc]
def Par (t : Tr) : Prop := ∀ (L : List m7) (k : Nat) (o : Int), L.length ≤ 1000000000 → Reads L k (j8 t) → 0 ≤ o → o + 2 * dep t ≤ 201 →
 (∀ p : Nat, 1 ≤ p → p ≤ 9 → (p = 1 ∨ (p : Int) ≤ lvX t.op) → nxt L (k + (j8 t).length) < (p : Int) → rd p ((L, ((k : Nat) : Int), o, (0 : Int), (0 : Int)) : RS) = some (((L, ((k + (j8 t).length : Nat) : Int), o, (0 : Int), (0 : Int)) : RS), flat t 0)) ∧
 (∀ l : Nat, LA l → (l : Int) ≤ lvX t.op → nxt L (k + (j8 t).length) < (l : Int) + 1 → ∀ y, lp l ((L, ((k + (j8 t).length : Nat) : Int), o, (0 : Int), (0 : Int)) : RS) (flat t 0) = some y → rd l ((L, ((k : Nat) : Int), o, (0 : Int), (0 : Int)) : RS) = some y)
theorem Par.part {x : Tr} (h : Par x) (hlen : 1 ≤ (j8 x).length) {L : List m7} (hL : L.length ≤ 1000000000) {k a : Nat} (a1 : 1 ≤ a) (a9 : a ≤ 9) {o : Int} (h0 : 0 ≤ o) (ho : o + 2 * dep x ≤ 200) (hr : Reads L k (n8 a (x.op, j8 x))) :
  (nxt L (k + (n8 a (x.op, j8 x)).length) < (a : Int) → rd a ((L, ((k : Nat) : Int), o, (0 : Int), (0 : Int)) : RS) = some (((L, ((k + (n8 a (x.op, j8 x)).length : Nat) : Int), o, (0 : Int), (0 : Int)) : RS), flat x 0)) ∧
  (LA a → nxt L (k + (n8 a (x.op, j8 x)).length) < (a : Int) + 1 → ∀ y, lp a ((L, ((k + (n8 a (x.op, j8 x)).length : Nat) : Int), o, (0 : Int), (0 : Int)) : RS) (flat x 0) = some y → rd a ((L, ((k : Nat) : Int), o, (0 : Int), (0 : Int)) : RS) = some y) := by
 have hd := a1b x
 by_cases hc : (O7 x.op).2 ≥ (a : Int)
 · have e : n8 a (x.op, j8 x) = j8 x := by unfold n8; rw [if_pos hc]
   rw [e] at hr ⊢
   obtain ⟨h1, h2⟩ := h L k o hL hr h0 (by omega)
   exact ⟨fun hn => h1 a a1 a9 (.inr hc) hn, fun hl hn y hy => h2 a hl hc hn y hy⟩
 · have e : n8 a (x.op, j8 x) = [40] :: (j8 x ++ [[41]]) := by unfold n8; rw [if_neg hc]
   rw [e] at hr ⊢
   obtain ⟨⟨b, hb⟩, hr2⟩ := hr
   obtain ⟨hr3, ⟨b', hb'⟩, _⟩ := l5.1 hr2
   have hlen2 := C0 hb'
   have hjc := l0 hb' (.inl b0X) [41]
   rw [show (([41] : Str) == [41]) = true from rfl] at hjc
   have hnx := a1g hjc
   rw [show lvl [41] = 0 by decide] at hnx
   have hA := (h L (k + 1) (o + 1) hL hr3 (by omega) (by omega)).1 1 (by omega) (by omega) (.inl rfl) (by omega)
   have h9 : rd 9 ((L, ((k : Nat) : Int), o, (0 : Int), (0 : Int)) : RS) = some (((L, ((k + 1 + (j8 x).length + 1 : Nat) : Int), o, (0 : Int), (0 : Int)) : RS), flat x 0) := K0 hb h0 (by omega) (J3 (by omega) (.inl b3Q) (b6b (by omega) hb hA hjc))
   have el : k + ([40] :: (j8 x ++ [[41]])).length = k + 1 + (j8 x).length + 1 := by simp only [List.length_cons, List.length_append, List.length_nil]; omega
   rw [el]
   obtain ⟨g1, g2⟩ := both (q := 9) (L := L) (k := k) (j := k + 1 + (j8 x).length + 1) (o := o) (v := flat x 0) (by omega) (by omega) (by omega) (fun _ => h9) (fun hl => by unfold LA at hl; omega)
   exact ⟨fun hn => g1 a a1 a9 hn, fun hl hn y hy => g2 a hl a9 hn y hy⟩
theorem c6W (b : Nd) : dep (.mk b []) = 1 := by rw [dep, a3e]; omega
theorem c5h (b : Nd) (t : Tr) : dep (.mk b [t]) = dep t + 1 := by
 have := a1b t
 rw [dep, a3e, a3e, if_pos (by omega)]
theorem c6X (b : Nd) (t u : Tr) : dep t + 1 ≤ dep (.mk b [t, u]) ∧ dep u + 1 ≤ dep (.mk b [t, u]) := by
 have := a1b t
 rw [dep, a3e, a3e, a3e, if_pos (show dep t > 0 by omega)]
 split <;> omega
theorem d3B (b : Nd) (t u v : Tr) : dep t + 1 ≤ dep (.mk b [t, u, v]) ∧ dep u + 1 ≤ dep (.mk b [t, u, v]) ∧ dep v + 1 ≤ dep (.mk b [t, u, v]) := by
 have := a1b t
 rw [dep, a3e, a3e, a3e, a3e, if_pos (show dep t > 0 by omega)]
 split <;> split <;> omega
theorem a8Y : ∀ ts : List Tr, total (ts.map fun t => flat t 0) = l7 ts + ts.length
 | [] => rfl
 | t :: r => by rw [List.map_cons, total, a8Y r, l7, n6, List.length_cons]; omega
theorem a8e {n : Int} (h : 0 ≤ n ∧ n ≤ 2147483647) : p7 (J9 n) = 2 := by
 obtain ⟨k, rfl, hk⟩ := a7Y h
 obtain ⟨d1, d2, _⟩ := b0O k k (Nat.le_refl _)
 rw [hk]
 generalize Lib.decDigits k = w at *
 cases w with
 | nil => exact absurd rfl d1
 | cons c r =>
   rw [List.all_cons, and_eq_true] at d2
   unfold p7
   rw [List.headD_cons, d2.1]; rfl
theorem a2P {s : Str} (h : u9 s = true) : p7 s = 1 := by
 have h' := h
 simp only [u9, and_eq_true, decide_eq_true_eq, Bool.not_eq_true'] at h'
 unfold p7
 rw [(b5o h'.2.2.2.1).1, h'.2.2.2.2, h]; rfl
theorem b1g {s : Str} (h : u9 s = true) : s ≠ [41] := by
 intro hs; subst hs
 exact absurd h (by decide)
theorem c0Q {n : Int} (h : 0 ≤ n ∧ n ≤ 2147483647) : J9 n ≠ [41] := by
 intro hs
 have := a8e h
 rw [hs, b0X] at this; cases this
theorem d1W {op : Int} (h : 4 ≤ op ∧ op ≤ 26) : opX op ≠ [41] := by
 have h1 : opX op = (a4J.getD op.toNat ([], -1)).1 := by unfold opX O7; rw [if_pos (by omega)]
 rw [h1]
 have : ∀ k, k < 27 → 4 ≤ k → (a4J.getD k ([], -1)).1 ≠ [41] := by decide +kernel
 exact this _ (by omega) (by omega)
theorem a2S {n : Nd} (h : E8 n = true) (hne : n.2.2.2.2.2 ≠ []) : u9 n.2.2.2.2.2 = true := by
 rw [E8, Bool.or_eq_true] at h
 rcases h with h | h
 · exact absurd (eq_of_beq h) hne
 · exact h
theorem b0C {e : List Nd} : ∀ (m : Nat) (t : Tr) (i : Nat), t.size ≤ m → Emb e i t → Valid t → o5 t = true → ∃ s r, j8 t = s :: r ∧ s ≠ [41] := by
 intro m
 induction m with
 | zero => intro t i h; have := t.size_pos; omega
 | succ m ih =>
   intro t i hm ht hv hn
   cases shape ht hv with
   | leaf h hx hN hs =>
     rename_i op a b c nn nm
     have hm2 := Z6 op
     rw [o5, and_eq_true] at hn
     rw [X8 h]
     refine ⟨_, _, rfl, ?_⟩
     split
     · exact c0Q (by omega)
     split
     · unfold a3l; split <;> decide
     · exact b1g (a2S hn.1 (hs.2 (by omega)))
   | call0 hx hN hs =>
     rw [o5, and_eq_true] at hn
     rw [R9]
     exact ⟨_, _, rfl, b1g (a2S hn.1 hs)⟩
   | call1 hx hN hs hj ht1 hv1 ho =>
     rw [o5, and_eq_true] at hn
     rw [S0]
     exact ⟨_, _, rfl, b1g (a2S hn.1 hs)⟩
   | arg1 hx hN hs hj ht1 hv1 ho =>
     rw [P1] at hm
     rw [o5, and_eq_true, j7, j7, Bool.and_true] at hn
     rw [X6]
     exact ih _ _ (by omega) ht1 hv1 hn.2
   | arg2 hx hN hs hj ht1 hv1 ho hk hu hvu hou =>
     rw [Q1] at hm
     rw [o5, and_eq_true, j7, j7, j7, Bool.and_true, and_eq_true] at hn
     obtain ⟨s, r, h1, h2⟩ := ih _ _ (by omega) ht1 hv1 hn.2.1
     rw [X7, h1]
     exact ⟨s, _, rfl, h2⟩
   | ite hx hN hs hj ht1 hv1 ho hk hu hvu hou hl hw hvw how =>
     rw [a0T]
     exact ⟨_, _, rfl, by decide⟩
   | un h hx hN hs hj ht1 hv1 ho =>
     rw [a3b h]
     exact ⟨_, _, rfl, d1W (by omega)⟩
   | bin h hx hN hs hj ht1 hv1 ho hk hu hvu hou =>
     rename_i op c nn nm j k t1 u1
     rw [Q1] at hm
     rw [o5, and_eq_true, j7, j7, j7, Bool.and_true, and_eq_true] at hn
     obtain ⟨s, r, h1, h2⟩ := ih _ _ (by omega) ht1 hv1 hn.2.1
     rw [a0S h]
     unfold n8
     split
     · simp only [h1]
       exact ⟨s, _, rfl, h2⟩
     · exact ⟨_, _, rfl, by decide⟩
end Go.Proofs.YtlobhcgbmpcdlaaGreatDoor.R
