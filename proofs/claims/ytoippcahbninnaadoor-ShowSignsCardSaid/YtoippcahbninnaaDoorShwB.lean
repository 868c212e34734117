/-
  OUR OWN: expressions' texts: the tokens of a tree, and package show's writer.
-/
import Derived.Test.YtoippcahbninnaaDoorShwA
namespace Go.Proofs.YtoippcahbninnaaDoor.R
open Go Go.Bm Go.Proofs
set_option linter.unusedVariables false
set_option linter.unusedSimpArgs false
set_option maxRecDepth 4000

/-! ### The shapes of a tree that may be -/
inductive Shp (e : List Nd) (i : Nat) : Tr → Prop
  | leaf {op a b c nn : Int} {nm : List UInt8} (h : op = 1 ∨ op = 2 ∨ op = 3) (hn : nth e i = some (op, a, b, c, nn, nm)) (hN : 0 ≤ nn ∧ nn ≤ mostN op) (hs : nm ≠ [] ↔ op = 3) : Shp e i (.mk (op, -1, -1, -1, nn, nm) [])
  | call0 {b c nn : Int} {nm : List UInt8} (hn : nth e i = some (27, -1, b, c, nn, nm)) (hN : nn = 0) (hs : nm ≠ []) : Shp e i (.mk (27, -1, -1, -1, nn, nm) [])
  | call1 {b c nn : Int} {nm : List UInt8} {j : Nat} {t : Tr} (hn : nth e i = some (27, (j : Int), b, c, nn, nm)) (hN : nn = 0) (hs : nm ≠ []) (hj : j < i) (ht : Emb e j t) (hv : Valid t) (ho : t.op = 28) : Shp e i (.mk (27, -1, -1, -1, nn, nm) [t])
  | arg1 {c nn : Int} {nm : List UInt8} {j : Nat} {t : Tr} (hn : nth e i = some (28, (j : Int), -1, c, nn, nm)) (hN : nn = 0) (hs : nm = []) (hj : j < i) (ht : Emb e j t) (hv : Valid t) (ho : t.op ≠ 28) : Shp e i (.mk (28, -1, -1, -1, nn, nm) [t])
  | arg2 {c nn : Int} {nm : List UInt8} {j k : Nat} {t u : Tr} (hn : nth e i = some (28, (k : Int), (j : Int), c, nn, nm)) (hN : nn = 0) (hs : nm = []) (hj : j < i) (ht : Emb e j t) (hv : Valid t) (ho : t.op = 28) (hk : k < i) (hu : Emb e k u) (hvu : Valid u) (hou : u.op ≠ 28) : Shp e i (.mk (28, -1, -1, -1, nn, nm) [t, u])
  | ite {nn : Int} {nm : List UInt8} {j k l : Nat} {t u v : Tr} (hn : nth e i = some (26, (j : Int), (k : Int), (l : Int), nn, nm)) (hN : nn = 0) (hs : nm = []) (hj : j < i) (ht : Emb e j t) (hv : Valid t) (ho : t.op ≠ 28) (hk : k < i) (hu : Emb e k u) (hvu : Valid u) (hou : u.op ≠ 28) (hl : l < i) (hw : Emb e l v) (hvw : Valid v) (how : v.op ≠ 28) : Shp e i (.mk (26, -1, -1, -1, nn, nm) [t, u, v])
  | un {op b c nn : Int} {nm : List UInt8} {j : Nat} {t : Tr} (h : op = 4 ∨ op = 5 ∨ op = 21 ∨ op = 22 ∨ op = 23 ∨ op = 24 ∨ op = 25) (hn : nth e i = some (op, (j : Int), b, c, nn, nm)) (hN : 0 ≤ nn ∧ nn ≤ mostN op) (hs : nm = []) (hj : j < i) (ht : Emb e j t) (hv : Valid t) (ho : t.op ≠ 28) : Shp e i (.mk (op, -1, -1, -1, nn, nm) [t])
  | bin {op c nn : Int} {nm : List UInt8} {j k : Nat} {t u : Tr} (h : 6 ≤ op ∧ op ≤ 20) (hn : nth e i = some (op, (j : Int), (k : Int), c, nn, nm)) (hN : nn = 0) (hs : nm = []) (hj : j < i) (ht : Emb e j t) (hv : Valid t) (ho : t.op ≠ 28) (hk : k < i) (hu : Emb e k u) (hvu : Valid u) (hou : u.op ≠ 28) : Shp e i (.mk (op, -1, -1, -1, nn, nm) [t, u])

theorem embs0 {e : List Nd} {i : Nat} {ks : List Tr} (h : Embs e i [] ks) : ks = [] := by
  cases ks with
  | nil => rfl
  | cons => exact h.elim
theorem embs1 {e : List Nd} {i : Nat} {x : Int} {ks : List Tr} (h : Embs e i [x] ks) : ∃ (j : Nat) (t : Tr), x = (j : Int) ∧ ks = [t] ∧ j < i ∧ Emb e j t := by
  cases ks with
  | nil => exact h.elim
  | cons t r =>
    obtain ⟨h1, h2, h3, h4⟩ := h
    have := embs0 h4; subst this
    exact ⟨x.toNat, t, by omega, rfl, by omega, h3⟩
theorem embs2 {e : List Nd} {i : Nat} {x y : Int} {ks : List Tr} (h : Embs e i [x, y] ks) : ∃ (j : Nat) (t : Tr) (k : Nat) (u : Tr), x = (j : Int) ∧ y = (k : Int) ∧ ks = [t, u] ∧ j < i ∧ Emb e j t ∧ k < i ∧ Emb e k u := by
  cases ks with
  | nil => exact h.elim
  | cons t r =>
    obtain ⟨h1, h2, h3, h4⟩ := h
    obtain ⟨k, u, e1, e2, e3, e4⟩ := embs1 h4
    subst e2
    exact ⟨x.toNat, t, k, u, by omega, e1, rfl, by omega, h3, e3, e4⟩
theorem embs3 {e : List Nd} {i : Nat} {x y z : Int} {ks : List Tr} (h : Embs e i [x, y, z] ks) : ∃ (j : Nat) (t : Tr) (k : Nat) (u : Tr) (l : Nat) (v : Tr), x = (j : Int) ∧ y = (k : Int) ∧ z = (l : Int) ∧ ks = [t, u, v] ∧ j < i ∧ Emb e j t ∧ k < i ∧ Emb e k u ∧ l < i ∧ Emb e l v := by
  cases ks with
  | nil => exact h.elim
  | cons t r =>
    obtain ⟨h1, h2, h3, h4⟩ := h
    obtain ⟨k, u, l, v, e1, e2, e3, e4, e5, e6, e7⟩ := embs2 h4
    subst e3
    exact ⟨x.toNat, t, k, u, l, v, by omega, e1, e2, rfl, by omega, h3, e4, e5, e6, e7⟩

theorem shape {e : List Nd} {i : Nat} : ∀ {t : Tr}, Emb e i t → Valid t → Shp e i t
  | .mk b ks, ⟨n, h1, h2, h3, h4⟩, ⟨v1, v2, v3, v4, v5, v6⟩ => by
    obtain ⟨op, a, b', c, nn, nm⟩ := n
    have hb : b = (op, -1, -1, -1, nn, nm) := h2
    subst hb
    simp only at v4
    obtain ⟨r1, r2, r3, r4, r5⟩ := v4
    by_cases c1 : op = 1 ∨ op = 2 ∨ op = 3
    · have hk : kids (op, a, b', c, nn, nm) = [] := by rcases c1 with rfl | rfl | rfl <;> rfl
      rw [hk] at h4
      have := embs0 h4; subst this
      exact .leaf c1 h1 ⟨r3, r4⟩ (by rw [r5]; omega)
    have m0 : op ≠ 25 → nn = 0 := fun h => by
      have : mostN op = 0 := by unfold mostN; rw [if_neg (by omega), if_neg (by omega), if_neg h]
      omega
    by_cases c2 : op = 27
    · subst c2
      have hs : nm ≠ [] := r5.2 (.inr rfl)
      by_cases ha : a = -1
      · subst ha
        have hk : kids (27, -1, b', c, nn, nm) = [] := rfl
        rw [hk] at h4
        have := embs0 h4; subst this
        exact .call0 h1 (m0 (by decide)) hs
      · have hk : kids (27, a, b', c, nn, nm) = [a] := by simp [kids, ha]
        rw [hk] at h4
        obtain ⟨j, t, rfl, rfl, k1, k2⟩ := embs1 h4
        refine .call1 h1 (m0 (by decide)) hs k1 k2 v6.1 ?_
        simp [argsT, argT] at v5
        exact v5
    have hs0 : nm = [] := by
      cases nm with
      | nil => rfl
      | cons x r => have := r5.1 (by simp); omega
    by_cases c3 : op = 28
    · subst c3
      by_cases hb : b' = -1
      · subst hb
        have hk : kids (28, a, -1, c, nn, nm) = [a] := by simp [kids]
        rw [hk] at h4
        obtain ⟨j, t, rfl, rfl, k1, k2⟩ := embs1 h4
        refine .arg1 h1 (m0 (by decide)) hs0 k1 k2 v6.1 ?_
        simp [argsT, argT] at v5
        exact v5
      · have hk : kids (28, a, b', c, nn, nm) = [b', a] := by simp [kids, hb]
        rw [hk] at h4
        obtain ⟨j, t, k, u, rfl, rfl, rfl, k1, k2, k3, k4⟩ := embs2 h4
        simp [argsT, argT] at v5
        exact .arg2 h1 (m0 (by decide)) hs0 k1 k2 v6.1 v5.1 k3 k4 v6.2.1 v5.2
    have hno : ∀ (x : Int) (m a : Nat), argT (op, -1, -1, -1, nn, nm) m a x = true → x ≠ 28 := by
      intro x m a h
      simp only [argT, df c2, df c3, Bool.false_and, Bool.or_false] at h
      intro hx
      rw [dt hx] at h; cases h
    by_cases c4 : op = 26
    · subst c4
      have hk : kids (26, a, b', c, nn, nm) = [a, b', c] := by simp [kids]
      rw [hk] at h4
      obtain ⟨j, t, k, u, l, v, rfl, rfl, rfl, rfl, k1, k2, k3, k4, k5, k6⟩ := embs3 h4
      simp only [argsT, Bool.and_eq_true] at v5
      exact .ite h1 (m0 (by decide)) hs0 k1 k2 v6.1 (hno _ _ _ v5.1) k3 k4 v6.2.1 (hno _ _ _ v5.2.1) k5 k6 v6.2.2.1 (hno _ _ _ v5.2.2.1)
    by_cases c5 : 6 ≤ op ∧ op ≤ 20
    · have hk : kids (op, a, b', c, nn, nm) = [a, b'] := by
        simp only [kids]; rw [if_neg c4, if_neg (fun h => c3 h.1), if_neg (fun h => c2 h.1), if_pos c5]
      rw [hk] at h4
      obtain ⟨j, t, k, u, rfl, rfl, rfl, k1, k2, k3, k4⟩ := embs2 h4
      simp only [argsT, Bool.and_eq_true] at v5
      exact .bin c5 h1 (m0 (by omega)) hs0 k1 k2 v6.1 (hno _ _ _ v5.1) k3 k4 v6.2.1 (hno _ _ _ v5.2.1)
    have c6 : op = 4 ∨ op = 5 ∨ op = 21 ∨ op = 22 ∨ op = 23 ∨ op = 24 ∨ op = 25 := by omega
    have hk : kids (op, a, b', c, nn, nm) = [a] := by
      simp only [kids]; rw [if_neg c4, if_neg (fun h => c3 h.1), if_neg (fun h => c2 h.1), if_neg c5, if_pos (by omega)]
    rw [hk] at h4
    obtain ⟨j, t, rfl, rfl, k1, k2⟩ := embs1 h4
    simp only [argsT, Bool.and_eq_true] at v5
    exact .un c6 h1 ⟨r3, r4⟩ hs0 k1 k2 v6.1 (hno _ _ _ v5.1)

/-! ### Tokens -/
abbrev Str : Type := List UInt8
/-- An operand of which a level is asked. -/
def partX (asked : Int) (x : Int × List Str) : List Str := if (markX x.1).2 ≥ asked then x.2 else [40] :: (x.2 ++ [[41]])
def lvX (op : Int) : Int := (markX op).2
def opX (op : Int) : Str := (markX op).1
def leftX (op : Int) : Int := if lvX op ≤ 2 then lvX op + 1 else if lvX op = 6 then 7 else lvX op
def rightX (op : Int) : Int := if lvX op ≤ 2 then lvX op else lvX op + 1
def boolX (n : Int) : Str := if n = 1 then [116, 114, 117, 101] else [102, 97, 108, 115, 101]
def tokB (b : Nd) (l : List (Int × List Str)) : List Str :=
  if b.1 = 1 then [itoaX b.2.2.2.2.1] else
  if b.1 = 2 then [boolX b.2.2.2.2.1] else
  if b.1 = 3 then [b.2.2.2.2.2] else
  if b.1 = 27 then b.2.2.2.2.2 :: [40] :: (match l with
    | [x] => x.2 ++ [[41]]
    | _ => [[41]]) else
  match l with
  | [x] => if b.1 = 28 then x.2 else if b.1 = 25 then opX 25 :: itoaX b.2.2.2.2.1 :: partX 9 x else opX b.1 :: partX 9 x
  | [x, y] => if b.1 = 28 then x.2 ++ [44] :: y.2 else partX (leftX b.1) x ++ opX b.1 :: partX (rightX b.1) y
  | [x, y, z] => opX 26 :: (x.2 ++ [116, 104, 101, 110] :: (y.2 ++ [101, 108, 115, 101] :: z.2))
  | _ => []
mutual
def toks : Tr → List Str
  | .mk b ks => tokB b (toksL ks)
def toksL : List Tr → List (Int × List Str)
  | [] => []
  | t :: r => (t.op, toks t) :: toksL r
end

theorem partX_len (a : Int) (x : Int × List Str) : x.2.length ≤ (partX a x).length ∧ (partX a x).length ≤ x.2.length + 2 := by
  unfold partX; split
  · omega
  · simp only [List.length_cons, List.length_append, List.length_nil]; omega

theorem size1 (b : Nd) (t : Tr) : (Tr.mk b [t]).size = t.size + 1 := by simp [Tr.size, sizes]
theorem size2 (b : Nd) (t u : Tr) : (Tr.mk b [t, u]).size = t.size + u.size + 1 := by simp [Tr.size, sizes]
theorem size3 (b : Nd) (t u v : Tr) : (Tr.mk b [t, u, v]).size = t.size + u.size + v.size + 1 := by simp [Tr.size, sizes]; omega
theorem size0 (b : Nd) : (Tr.mk b []).size = 1 := by simp [Tr.size, sizes]

theorem toks_leaf {op nn : Int} {nm : Str} (h : op = 1 ∨ op = 2 ∨ op = 3) : toks (.mk (op, -1, -1, -1, nn, nm) []) = [if op = 1 then itoaX nn else if op = 2 then boolX nn else nm] := by
  rcases h with rfl | rfl | rfl <;> rfl
theorem toks_call0 {nn : Int} {nm : Str} : toks (.mk (27, -1, -1, -1, nn, nm) []) = [nm, [40], [41]] := rfl
theorem toks_call1 {nn : Int} {nm : Str} {t : Tr} : toks (.mk (27, -1, -1, -1, nn, nm) [t]) = nm :: [40] :: (toks t ++ [[41]]) := rfl
theorem toks_arg1 {nn : Int} {nm : Str} {t : Tr} : toks (.mk (28, -1, -1, -1, nn, nm) [t]) = toks t := rfl
theorem toks_arg2 {nn : Int} {nm : Str} {t u : Tr} : toks (.mk (28, -1, -1, -1, nn, nm) [t, u]) = toks t ++ [44] :: toks u := rfl
theorem toks_ite {nn : Int} {nm : Str} {t u v : Tr} : toks (.mk (26, -1, -1, -1, nn, nm) [t, u, v]) = opX 26 :: (toks t ++ [116, 104, 101, 110] :: (toks u ++ [101, 108, 115, 101] :: toks v)) := rfl
theorem toks_un {op nn : Int} {nm : Str} {t : Tr} (h : op = 4 ∨ op = 5 ∨ op = 21 ∨ op = 22 ∨ op = 23 ∨ op = 24 ∨ op = 25) : toks (.mk (op, -1, -1, -1, nn, nm) [t]) = opX op :: ((if op = 25 then [itoaX nn] else []) ++ partX 9 (t.op, toks t)) := by
  rcases h with rfl | rfl | rfl | rfl | rfl | rfl | rfl <;> rfl
theorem toks_bin {op nn : Int} {nm : Str} {t u : Tr} (h : 6 ≤ op ∧ op ≤ 20) : toks (.mk (op, -1, -1, -1, nn, nm) [t, u]) = partX (leftX op) (t.op, toks t) ++ opX op :: partX (rightX op) (u.op, toks u) := by
  have h1 : op ≠ 1 := by omega
  have h2 : op ≠ 2 := by omega
  have h3 : op ≠ 3 := by omega
  have h27 : op ≠ 27 := by omega
  have h28 : op ≠ 28 := by omega
  show tokB (op, -1, -1, -1, nn, nm) [(t.op, toks t), (u.op, toks u)] = _
  simp only [tokB, if_neg h1, if_neg h2, if_neg h3, if_neg h27, if_neg h28]

theorem toks_len {e : List Nd} : ∀ (m : Nat) (t : Tr) (i : Nat), t.size ≤ m → Emb e i t → Valid t → 1 ≤ (toks t).length ∧ (toks t).length + 2 ≤ 5 * t.size := by
  intro m
  induction m with
  | zero => intro t i h; have := t.size_pos; omega
  | succ m ih =>
    intro t i hm ht hv
    cases shape ht hv with
    | leaf h => rw [toks_leaf h, size0]; simp
    | call0 => rw [toks_call0, size0]; simp
    | call1 hn hN hs hj ht1 hv1 ho =>
      rw [size1] at hm ⊢
      have := ih _ _ (by omega) ht1 hv1
      rw [toks_call1]; simp; omega
    | arg1 hn hN hs hj ht1 hv1 ho =>
      rw [size1] at hm ⊢
      have := ih _ _ (by omega) ht1 hv1
      rw [toks_arg1]; omega
    | arg2 hn hN hs hj ht1 hv1 ho hk hu hvu hou =>
      rw [size2] at hm ⊢
      have := ih _ _ (by omega) ht1 hv1
      have := ih _ _ (by omega) hu hvu
      rw [toks_arg2]; simp; omega
    | ite hn hN hs hj ht1 hv1 ho hk hu hvu hou hl hw hvw how =>
      rw [size3] at hm ⊢
      have := ih _ _ (by omega) ht1 hv1
      have := ih _ _ (by omega) hu hvu
      have := ih _ _ (by omega) hw hvw
      rw [toks_ite]; simp; omega
    | un h hn hN hs hj ht1 hv1 ho =>
      rename_i op b c nn nm j t1
      rw [size1] at hm ⊢
      have := ih _ _ (by omega) ht1 hv1
      have hp := partX_len 9 (t1.op, toks t1)
      rw [toks_un h]; simp only [List.length_cons, List.length_append]
      split <;> simp at * <;> omega
    | bin h hn hN hs hj ht1 hv1 ho hk hu hvu hou =>
      rename_i op c nn nm j k t1 u1
      rw [size2] at hm ⊢
      have := ih _ _ (by omega) ht1 hv1
      have := ih _ _ (by omega) hu hvu
      have hp := partX_len (leftX op) (t1.op, toks t1)
      have hq := partX_len (rightX op) (u1.op, toks u1)
      rw [toks_bin h]; simp only [List.length_cons, List.length_append]
      simp at *; omega

/-! ### Package show -/
def mkT (s : Str) : Int × Str × Int := (0, s, 0)

theorem put_loop (e : List Nd) : ∀ (suf pre : List Str) (out : List (Int × Str × Int)), out.length + suf.length ≤ 2000000 → pre.length + suf.length ≤ 2000000 →
    k54 T.rb e out (pre ++ suf) (((pre ++ suf).length : Nat) : Int) (pre.length : Nat) = some (e, out ++ suf.map mkT)
  | [], pre, out, h, h2 => ob54 (by simp only [b54, lt_end, lt_self, List.append_nil, cond_false, List.map_nil])
  | x :: suf, pre, out, h, h2 => ob54 (by
    simp only [List.length_cons] at h h2
    have ih := put_loop e suf (pre ++ [x]) (out ++ [mkT x]) (by simp; omega) (by simp; omega)
    simp only [List.append_assoc, List.singleton_append] at ih
    simp only [b54, lt_mid, inb_mid, nth_mid, cond_true, Option.bind_some, ble_most (show out.length + 1 ≤ 274877906944 by omega), Bool.and_true, next_mid pre x (by omega)]
    exact ih)

theorem put_eq (e : List Nd) (out : List (Int × Str × Int)) (ds : List Str) (h : out.length + ds.length ≤ 2000000) : c68 T.rf e out ds = some (e, out ++ ds.map mkT) := or68 (by
  have := put_loop e ds [] out h (by simp; omega)
  simp only [List.nil_append, List.length_nil] at this
  rw [show ((0 : Nat) : Int) = (0 : Int) from rfl] at this
  simp only [r68, this, Option.bind_some])

theorem fbool_eq (b : Bool) : c69 T.rf b = some (if b = true then [116, 114, 117, 101] else [102, 97, 108, 115, 101]) := or69 (by
  have h : c70 T.rf b = some (if b = true then [116, 114, 117, 101] else [102, 97, 108, 115, 101]) := or70 (by cases b <;> rfl)
  simp only [r69, h, Option.bind_some])

theorem itoa_eq {n : Int} (h : 0 ≤ n ∧ n ≤ 2147483647) : c67 T.rf n = some (itoaX n) := or67 (by
  have : fits64 n = true := by unfold fits64; rw [dt (by omega), dt (by omega)]; rfl
  simp only [r67, this, cond_true])

theorem lv_bin {op : Int} (h : 6 ≤ op ∧ op ≤ 20) : 1 ≤ lvX op ∧ lvX op ≤ 8 := by
  have : op = 6 ∨ op = 7 ∨ op = 8 ∨ op = 9 ∨ op = 10 ∨ op = 11 ∨ op = 12 ∨ op = 13 ∨ op = 14 ∨ op = 15 ∨ op = 16 ∨ op = 17 ∨ op = 18 ∨ op = 19 ∨ op = 20 := by omega
  rcases this with rfl | rfl | rfl | rfl | rfl | rfl | rfl | rfl | rfl | rfl | rfl | rfl | rfl | rfl | rfl <;> decide
theorem lv_un {op : Int} (h : op = 4 ∨ op = 5 ∨ op = 21 ∨ op = 22 ∨ op = 23 ∨ op = 24 ∨ op = 25) : lvX op = 9 := by
  rcases h with rfl | rfl | rfl | rfl | rfl | rfl | rfl <;> rfl
theorem mostN_le (op : Int) : mostN op ≤ 2147483647 := by unfold mostN; repeat' split
                                                          all_goals omega

theorem part_of {e : List Nd} {j : Nat} {n : Nd} {ts : List Str} {m : Nat} (hn : nth e j = some n) (asked : Int) (out : List (Int × Str × Int))
    (hw : ∀ out' : List (Int × Str × Int), out'.length ≤ out.length + 1 → c64 T.rf e out' (j : Nat) = some (e, out' ++ ts.map mkT)) (hlen : out.length + ts.length + 2 ≤ 2000000) :
    c72 T.rf e out (j : Nat) asked = some (e, out ++ (partX asked (n.1, ts)).map mkT) := or72 (by
  have hj : j < e.length := by rw [nth_getElem?] at hn; exact (List.getElem?_eq_some_iff.1 hn).1
  have e1 : inb ((j : Nat) : Int) e.length = true := inb_t (by omega) (by omega)
  simp only [r72, e1, cond_true, Int.toNat_natCast, hn, Option.bind_some, level_eq, partX]
  by_cases hl : (markX n.1).2 ≥ asked
  · rw [dt hl, if_pos hl, cond_true, hw out (by omega)]; rfl
  · rw [df hl, if_neg hl, cond_false, put_eq e out _ (by simp; omega), Option.bind_some, hw _ (by simp), Option.bind_some, put_eq e _ _ (by simp; omega), Option.bind_some]
    simp [mkT])

theorem show_walk {e : List Nd} : ∀ (m : Nat) (t : Tr) (i : Nat) (out : List (Int × Str × Int)), t.size ≤ m → Emb e i t → Valid t → out.length + 5 * t.size ≤ 1000000 →
    (t.op ≠ 28 → c64 T.rf e out (i : Nat) = some (e, out ++ (toks t).map mkT)) ∧ (t.op = 28 → c71 T.rf e out (i : Nat) = some (e, out ++ (toks t).map mkT)) := by
  intro m
  induction m with
  | zero => intro t i out h; have := t.size_pos; omega
  | succ m ih =>
    intro t i out hm ht hv hN
    have hi : i < e.length := emb_lt ht
    have e1 : inb ((i : Nat) : Int) e.length = true := inb_t (by omega) (by omega)
    cases shape ht hv with
    | leaf h hn hNN hs =>
      rename_i op a b c nn nm
      rw [size0] at hN
      refine ⟨fun _ => or64 ?_, fun h28 => by have h28 : op = 28 := h28; omega⟩
      have hm2 := mostN_le op
      rw [toks_leaf h]
      rcases h with rfl | rfl | rfl
      · simp only [r64, e1, cond_true, Int.toNat_natCast, hn, Option.bind_some, of_eq, show ((1 : Int) == 1) = true from rfl, itoa_eq (n := nn) (by omega), put_eq e out _ (show out.length + [itoaX nn].length ≤ 2000000 by simp; omega)]
        rfl
      · have hb : (if (nn == 1) = true then ([116, 114, 117, 101] : Str) else [102, 97, 108, 115, 101]) = boolX nn := by
          unfold boolX
          by_cases h1 : nn = 1
          · rw [if_pos (bt h1), if_pos h1]
          · rw [if_neg (by rw [bf h1]; decide), if_neg h1]
        simp only [r64, e1, cond_true, cond_false, Int.toNat_natCast, hn, Option.bind_some, of_eq, show ((2 : Int) == 1) = false from rfl, show ((2 : Int) == 2) = true from rfl, fbool_eq, hb, put_eq e out _ (show out.length + [boolX nn].length ≤ 2000000 by simp; omega)]
        rfl
      · simp only [r64, e1, cond_true, cond_false, Int.toNat_natCast, hn, Option.bind_some, of_eq, show ((3 : Int) == 1) = false from rfl, show ((3 : Int) == 2) = false from rfl, show ((3 : Int) == 3) = true from rfl, put_eq e out _ (show out.length + [nm].length ≤ 2000000 by simp; omega)]
        rfl
    | call0 hn hNN hs =>
      rename_i b c nn nm
      rw [size0] at hN
      refine ⟨fun _ => or64 ?_, fun h28 => by cases h28⟩
      rw [toks_call0]
      simp only [r64, e1, cond_true, cond_false, Int.toNat_natCast, hn, Option.bind_some, of_eq, show ((27 : Int) == 1) = false from rfl, show ((27 : Int) == 2) = false from rfl, show ((27 : Int) == 3) = false from rfl, show ((27 : Int) == 27) = true from rfl, show decide ((-1 : Int) ≥ 0) = false from rfl, put_eq e out _ (show out.length + [nm, [40]].length ≤ 2000000 by simp; omega),
        put_eq e (out ++ [nm, [40]].map mkT) _ (show (out ++ [nm, [40]].map mkT).length + [([41] : Str)].length ≤ 2000000 by simp; omega)]
      simp
    | call1 hn hNN hs hj ht1 hv1 ho =>
      rename_i b c nn nm j t1
      rw [size1] at hN hm
      refine ⟨fun _ => or64 ?_, fun h28 => by cases h28⟩
      have hl := (toks_len t1.size t1 j (Nat.le_refl _) ht1 hv1).2
      have w := (ih t1 j (out ++ [nm, [40]].map mkT) (by omega) ht1 hv1 (by simp; omega)).2 ho
      rw [toks_call1]
      simp only [r64, e1, cond_true, cond_false, Int.toNat_natCast, hn, Option.bind_some, of_eq, show ((27 : Int) == 1) = false from rfl, show ((27 : Int) == 2) = false from rfl, show ((27 : Int) == 3) = false from rfl, show ((27 : Int) == 27) = true from rfl, dt (show ((j : Nat) : Int) ≥ 0 by omega), put_eq e out _ (show out.length + [nm, [40]].length ≤ 2000000 by simp; omega), w,
        put_eq e (out ++ [nm, [40]].map mkT ++ (toks t1).map mkT) _ (show (out ++ [nm, [40]].map mkT ++ (toks t1).map mkT).length + [([41] : Str)].length ≤ 2000000 by simp; omega)]
      simp
    | arg1 hn hNN hs hj ht1 hv1 ho =>
      rename_i c nn nm j t1
      rw [size1] at hN hm
      refine ⟨fun h28 => absurd rfl h28, fun _ => or71 ?_⟩
      have w := (ih t1 j out (by omega) ht1 hv1 (by omega)).1 ho
      rw [toks_arg1]
      simp only [r71, e1, cond_true, cond_false, Int.toNat_natCast, hn, Option.bind_some, show decide ((-1 : Int) ≥ 0) = false from rfl, w]
    | arg2 hn hNN hs hj ht1 hv1 ho hk hu hvu hou =>
      rename_i c nn nm j k t1 u1
      rw [size2] at hN hm
      refine ⟨fun h28 => absurd rfl h28, fun _ => or71 ?_⟩
      have hl := (toks_len t1.size t1 j (Nat.le_refl _) ht1 hv1).2
      have w := (ih t1 j out (by omega) ht1 hv1 (by omega)).2 ho
      have w2 := (ih u1 k (out ++ (toks t1).map mkT ++ [[44]].map mkT) (by omega) hu hvu (by simp; omega)).1 hou
      rw [toks_arg2]
      simp only [r71, e1, cond_true, cond_false, Int.toNat_natCast, hn, Option.bind_some, dt (show ((j : Nat) : Int) ≥ 0 by omega), w, put_eq e (out ++ (toks t1).map mkT) _ (show (out ++ (toks t1).map mkT).length + [([44] : Str)].length ≤ 2000000 by simp; omega), w2]
      simp
    | ite hn hNN hs hj ht1 hv1 ho hk hu hvu hou hl hw hvw how =>
      rename_i nn nm j k l t1 u1 v1
      rw [size3] at hN hm
      refine ⟨fun _ => or64 ?_, fun h28 => by cases h28⟩
      have hl1 := (toks_len t1.size t1 j (Nat.le_refl _) ht1 hv1).2
      have hl2 := (toks_len u1.size u1 k (Nat.le_refl _) hu hvu).2
      have hl3 := (toks_len v1.size v1 l (Nat.le_refl _) hw hvw).2
      have w1 := (ih t1 j (out ++ [opX 26].map mkT) (by omega) ht1 hv1 (by simp; omega)).1 ho
      have w2 := (ih u1 k (out ++ [opX 26].map mkT ++ (toks t1).map mkT ++ [[116, 104, 101, 110]].map mkT) (by omega) hu hvu (by simp; omega)).1 hou
      have w3 := (ih v1 l (out ++ [opX 26].map mkT ++ (toks t1).map mkT ++ [[116, 104, 101, 110]].map mkT ++ (toks u1).map mkT ++ [[101, 108, 115, 101]].map mkT) (by omega) hw hvw (by simp; omega)).1 how
      rw [toks_ite]
      simp only [r64, e1, cond_true, cond_false, Int.toNat_natCast, hn, Option.bind_some, of_eq, show ((26 : Int) == 1) = false from rfl, show ((26 : Int) == 2) = false from rfl, show ((26 : Int) == 3) = false from rfl, show ((26 : Int) == 27) = false from rfl, show ((26 : Int) == 26) = true from rfl, show (markX 26).1 = opX 26 from rfl,
        put_eq e out _ (show out.length + [opX 26].length ≤ 2000000 by simp; omega), w1, put_eq e (out ++ [opX 26].map mkT ++ (toks t1).map mkT) _ (show (out ++ [opX 26].map mkT ++ (toks t1).map mkT).length + [([116, 104, 101, 110] : Str)].length ≤ 2000000 by simp; omega), w2,
        put_eq e (out ++ [opX 26].map mkT ++ (toks t1).map mkT ++ [[116, 104, 101, 110]].map mkT ++ (toks u1).map mkT) _ (show (out ++ [opX 26].map mkT ++ (toks t1).map mkT ++ [[116, 104, 101, 110]].map mkT ++ (toks u1).map mkT).length + [([101, 108, 115, 101] : Str)].length ≤ 2000000 by simp; omega), w3]
      simp
    | un h hn hNN hs hj ht1 hv1 ho =>
      rename_i op b c nn nm j t1
      rw [size1] at hN hm
      refine ⟨fun _ => or64 ?_, fun h28 => by have h28 : op = 28 := h28; omega⟩
      have hl := (toks_len t1.size t1 j (Nat.le_refl _) ht1 hv1).2
      have hm2 := mostN_le op
      obtain ⟨n1, hn1, ho1⟩ : ∃ n1, nth e j = some n1 ∧ n1.1 = t1.op := by
        have hjl := emb_lt ht1
        refine ⟨e[j], by rw [nth_getElem?]; exact List.getElem?_eq_getElem hjl, ?_⟩
        have := emb_op ht1
        rw [← this]; exact (opAt_of (by rw [nth_getElem?]; exact List.getElem?_eq_getElem hjl)).symm
      have hlv : (markX op).2 = 9 := lv_un h
      have P : ∀ out' : List (Int × Str × Int), out'.length ≤ out.length + 2 → c72 T.rf e out' (j : Nat) 9 = some (e, out' ++ (partX 9 (t1.op, toks t1)).map mkT) := fun out' ho' => by
        rw [← ho1]
        exact part_of (m := 0) hn1 9 out' (fun o2 h2 => (ih t1 j o2 (by omega) ht1 hv1 (by omega)).1 ho) (by omega)
      rw [toks_un h]
      by_cases h25 : op = 25
      · subst h25
        simp only [r64, e1, cond_true, cond_false, Int.toNat_natCast, hn, Option.bind_some, of_eq, show ((25 : Int) == 1) = false from rfl, show ((25 : Int) == 2) = false from rfl, show ((25 : Int) == 3) = false from rfl, show ((25 : Int) == 27) = false from rfl, show ((25 : Int) == 26) = false from rfl, show ((markX 25).2 == 9) = true from rfl, show ((25 : Int) == 25) = true from rfl, show (markX 25).1 = opX 25 from rfl,
          put_eq e out _ (show out.length + [opX 25].length ≤ 2000000 by simp; omega), itoa_eq (n := nn) (by omega), put_eq e (out ++ [opX 25].map mkT) _ (show (out ++ [opX 25].map mkT).length + [itoaX nn].length ≤ 2000000 by simp; omega), P (out ++ [opX 25].map mkT ++ [itoaX nn].map mkT) (by simp)]
        simp
      · simp only [r64, e1, cond_true, cond_false, Int.toNat_natCast, hn, Option.bind_some, of_eq, bf (show op ≠ 1 by omega), bf (show op ≠ 2 by omega), bf (show op ≠ 3 by omega), bf (show op ≠ 27 by omega), bf (show op ≠ 26 by omega), bt hlv, bf h25, show (markX op).1 = opX op from rfl,
          put_eq e out _ (show out.length + [opX op].length ≤ 2000000 by simp; omega), P (out ++ [opX op].map mkT) (by simp), if_neg h25]
        simp
    | bin h hn hNN hs hj ht1 hv1 ho hk hu hvu hou =>
      rename_i op c nn nm j k t1 u1
      rw [size2] at hN hm
      refine ⟨fun _ => or64 ?_, fun h28 => by have h28 : op = 28 := h28; omega⟩
      have hl1 := (toks_len t1.size t1 j (Nat.le_refl _) ht1 hv1).2
      have hl2 := (toks_len u1.size u1 k (Nat.le_refl _) hu hvu).2
      obtain ⟨n1, hn1, ho1⟩ : ∃ n1, nth e j = some n1 ∧ n1.1 = t1.op := by
        have hjl := emb_lt ht1
        refine ⟨e[j], by rw [nth_getElem?]; exact List.getElem?_eq_getElem hjl, ?_⟩
        have := emb_op ht1
        rw [← this]; exact (opAt_of (by rw [nth_getElem?]; exact List.getElem?_eq_getElem hjl)).symm
      obtain ⟨n2, hn2, ho2⟩ : ∃ n2, nth e k = some n2 ∧ n2.1 = u1.op := by
        have hjl := emb_lt hu
        refine ⟨e[k], by rw [nth_getElem?]; exact List.getElem?_eq_getElem hjl, ?_⟩
        have := emb_op hu
        rw [← this]; exact (opAt_of (by rw [nth_getElem?]; exact List.getElem?_eq_getElem hjl)).symm
      obtain ⟨lv1, lv2⟩ := lv_bin h
      have P : ∀ (asked : Int), c72 T.rf e out (j : Nat) asked = some (e, out ++ (partX asked (t1.op, toks t1)).map mkT) := fun asked => by
        rw [← ho1]
        exact part_of (m := 0) hn1 asked out (fun o2 h2 => (ih t1 j o2 (by omega) ht1 hv1 (by omega)).1 ho) (by omega)
      have hpl : ∀ a, (partX a (t1.op, toks t1)).length ≤ (toks t1).length + 2 := fun a => (partX_len a (t1.op, toks t1)).2
      have Pu : ∀ (a : Int), c68 T.rf e (out ++ (partX a (t1.op, toks t1)).map mkT) [opX op] = some (e, out ++ (partX a (t1.op, toks t1)).map mkT ++ [opX op].map mkT) := fun a => put_eq e _ _ (by have := hpl a; simp; omega)
      have Q : ∀ (a asked : Int), c72 T.rf e (out ++ (partX a (t1.op, toks t1)).map mkT ++ [opX op].map mkT) (k : Nat) asked = some (e, out ++ (partX a (t1.op, toks t1)).map mkT ++ [opX op].map mkT ++ (partX asked (u1.op, toks u1)).map mkT) := fun a asked => by
        have := hpl a
        rw [← ho2]
        exact part_of (m := 0) hn2 asked _ (fun o2 h2 => (ih u1 k o2 (by omega) hu hvu (by simp at h2; omega)).1 hou) (by simp; omega)
      rw [toks_bin h]
      have hlx : (markX op).2 = lvX op := rfl
      have hw : IntKind.i64.wrap (lvX op + 1) = lvX op + 1 := wr (by omega)
      have base : r64 T.rf T.rb e out (i : Nat) = (c72 T.rf e out (j : Nat) (leftX op)).bind fun y => (c68 T.rf y.1 y.2 [opX op]).bind fun z => c72 T.rf z.1 z.2 (k : Nat) (rightX op) := by
        simp only [r64, e1, cond_true, cond_false, Int.toNat_natCast, hn, Option.bind_some, of_eq, bf (show op ≠ 1 by omega), bf (show op ≠ 2 by omega), bf (show op ≠ 3 by omega), bf (show op ≠ 27 by omega), bf (show op ≠ 26 by omega), hlx, bf (show lvX op ≠ 9 by omega), hw, show (markX op).1 = opX op from rfl, leftX, rightX, Option.bind_fun_some]
        by_cases h2 : lvX op ≤ 2
        · simp only [dt h2, cond_true, bf (show lvX op ≠ 6 by omega), cond_false, if_pos h2]
        · simp only [df h2, cond_false, if_neg h2]
          by_cases h6 : lvX op = 6
          · simp only [bt h6, cond_true, if_pos h6, h6]; rfl
          · simp only [bf h6, cond_false, if_neg h6]
      rw [base, P, Option.bind_some, Pu, Option.bind_some, Q]
      simp

end Go.Proofs.YtoippcahbninnaaDoor.R
