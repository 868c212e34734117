import Derived.Test.YtlobhcgbmpcdlaaGreatDoorShwQ
open Option (bind_some)
open List (length_append length_cons length_nil)
namespace Go.Proofs.YtlobhcgbmpcdlaaGreatDoor.R
open Go Go.Bm Go.Proofs
set_option linter.unusedVariables false
set_option linter.unusedSimpArgs false
set_option maxRecDepth 4000
noncomputable def a4W (r : RS) (out : List (List Nd)) : Option ((RS × List (List Nd)) ⊕ RS) :=
 (c54 T.rf r ([41] : Str)).bind fun (y2 : RS × Bool) =>
   bif y2.2 then
    some (.inl (y2.1, out))
   else
    (c57 T.rf y2.1 ([44] : Str)).bind fun (y3 : RS) =>
    k25 T.rb y3 out
theorem Q3 {r r' : RS} (h0 : r.2.2.2.1 = 0) {v : List Nd} (h : c36 T.rf r = some (r', v)) {out : List (List Nd)} (ho : out.length ≤ 2000000000) {y} (hy : a4W r' (out ++ [v]) = some y) :
  k25 T.rb r out = some y := c5F (by
 simp only [b25, bt h0, cond_true, h, bind_some, m8 (show out.length + 1 ≤ 274877906944 by omega), Bool.and_true]
 exact hy)
def d3q (t : Tr) : Prop := ∃ ts : List Tr, L9 ts ∧ l7 ts + ts.length ≤ t.size ∧ (∀ r, chn [] (ts ++ r) = chn [t] r) ∧
 ∀ (L : List m7) (k : Nat) (o : Int) (out : List (List Nd)) (y), L.length ≤ 1000000000 → Reads L k (j8 t) → 0 ≤ o → o + 2 * dep t ≤ 201 → out.length + t.size ≤ 1000000 →
  (isB L (k + (j8 t).length) [41] = true ∨ isB L (k + (j8 t).length) [44] = true) → a4W ((L, ((k + (j8 t).length : Nat) : Int), o, (0 : Int), (0 : Int)) : RS) (out ++ ts.map fun t => flat t 0) = some y →
  k25 T.rb ((L, ((k : Nat) : Int), o, (0 : Int), (0 : Int)) : RS) out = some y
theorem b0n {L : List m7} {j : Nat} (h : isB L j [41] = true ∨ isB L j [44] = true) : nxt L j < 1 := by
 rcases h with h | h
 · rw [a1g h]; decide
 · rw [a1g h]; decide
theorem jn0 {op n : Int} {nm : Str} (h27 : op ≠ 27) (h28 : op ≠ 28) (hk : (kids (op, -1, -1, -1, n, nm)).length = 0) : c47 T.rf op n nm [] = some (flat (.mk (op, -1, -1, -1, n, nm) []) 0) := by
 rw [R5 (by simp [total]) (by simp), ← Q9 (ts := []) h27 h28 hk trivial (by simp [l7])]; rfl
theorem jn1 {op n : Int} {t : Tr} (h : op = 4 ∨ op = 5 ∨ op = 21 ∨ op = 22 ∨ op = 23 ∨ op = 24 ∨ op = 25) (hv : Valid t) (hs : t.size ≤ 100000) : c47 T.rf op n ([] : Str) [flat t 0] = some (flat (.mk (op, -1, -1, -1, n, []) [t]) 0) := by
 rw [R5 (by simp [total, n6]; omega) (by simp), ← Q9 (ts := [t]) (by omega) (by omega) (by rw [c3M (by omega)]; rfl) ⟨hv, trivial⟩ (by simp [l7]; omega)]; rfl
theorem b8s {op : Int} {t u : Tr} (h : 6 ≤ op ∧ op ≤ 20) (hv : Valid t) (hs : t.size ≤ 100000) (hv2 : Valid u) (hs2 : u.size ≤ 100000) : join op 0 ([] : Str) [flat t 0, flat u 0] = flat (.mk (op, -1, -1, -1, 0, []) [t, u]) 0 := by
 have hk : kids (op, -1, -1, -1, 0, []) = [-1, -1] := by
  simp only [kids]; rw [if_neg (by omega), if_neg (by omega), if_neg (by omega), if_pos h]
 rw [← Q9 (ts := [t, u]) (by omega) (by omega) (by rw [hk]; rfl) ⟨hv, hv2, trivial⟩ (by simp [l7]; omega)]; rfl
theorem jn3 {t u v : Tr} (hv : Valid t) (hs : t.size ≤ 100000) (hv2 : Valid u) (hs2 : u.size ≤ 100000) (hv3 : Valid v) (hs3 : v.size ≤ 100000) : c47 T.rf 26 0 ([] : Str) [flat t 0, flat u 0, flat v 0] = some (flat (.mk (26, -1, -1, -1, 0, []) [t, u, v]) 0) := by
 rw [R5 (by simp [total, n6]; omega) (by simp), ← Q9 (ts := [t, u, v]) (by decide) (by decide) rfl ⟨hv, hv2, hv3, trivial⟩ (by simp [l7]; omega)]; rfl
theorem jnC {nm : Str} {ts : List Tr} (hv : L9 ts) (hs : l7 ts + ts.length ≤ 1000000) : c47 T.rf 27 0 nm (ts.map fun t => flat t 0) = some (flat (a0z nm ts) 0) := by
 rw [R5 (by rw [a8Y]; omega) (by rw [List.length_map]; omega), b6z hv hs]
theorem c1t {t : Tr} (hlv : (9 : Int) ≤ lvX t.op) (hlen : 1 ≤ (j8 t).length) (h : ∀ (L : List m7) (k : Nat) (o : Int), L.length ≤ 1000000000 → Reads L k (j8 t) → 0 ≤ o → o + 2 * dep t ≤ 201 → nxt L (k + (j8 t).length) < 9 → rd 9 ((L, ((k : Nat) : Int), o, (0 : Int), (0 : Int)) : RS) = some (((L, ((k + (j8 t).length : Nat) : Int), o, (0 : Int), (0 : Int)) : RS), flat t 0)) : Par t := by
 intro L k o hL hr h0 ho
 have hl := G2 hr hlen
 obtain ⟨g1, g2⟩ := both (q := 9) (L := L) (k := k) (j := k + (j8 t).length) (o := o) (v := flat t 0) (by omega) (by omega) (by omega) (fun hn => h L k o hL hr h0 ho hn) (fun hl => by unfold LA at hl; omega)
 exact ⟨fun p p1 p9 _ hn => g1 p p1 p9 hn, fun l hl hl2 hn y hy => g2 l hl (by unfold LA at hl; omega) hn y hy⟩
theorem b9m {op : Int} (h : op = 4 ∨ op = 5 ∨ op = 21 ∨ op = 22 ∨ op = 23 ∨ op = 24 ∨ op = 25) : c58 T.rf (opX op) = some op := by
 rcases h with rfl | rfl | rfl | rfl | rfl | rfl | rfl <;> exact b6L rfl
theorem b1f {op : Int} (h : op = 1 ∨ op = 2 ∨ op = 3 ∨ op = 27) : (9 : Int) ≤ lvX op := by
 rcases h with rfl | rfl | rfl | rfl <;> decide
theorem L2 {b : Nd} {ks : List Tr} (h : o5 (.mk b ks) = true) : E8 b = true ∧ j7 ks = true := by
 rw [o5, Bool.and_eq_true] at h; exact h
theorem b9U : p7 [116, 104, 101, 110] = 3 := by decide +kernel
theorem b9S : p7 [101, 108, 115, 101] = 3 := by decide +kernel
theorem b3n : p7 [116, 114, 117, 101] = 3 := by decide +kernel
theorem b0B : p7 [102, 97, 108, 115, 101] = 3 := by decide +kernel
theorem b9T : p7 (opX 26) = 3 := by decide +kernel
theorem par {e : List Nd} : ∀ (m : Nat) (t : Tr) (i : Nat), t.size ≤ m → m ≤ 100000 → Emb e i t → Valid t → o5 t = true → (t.op ≠ 28 → Par t) ∧ (t.op = 28 → d3q t) := by
 intro m
 induction m with
 | zero => intro t i h; have := t.size_pos; omega
 | succ m ih =>
   intro t i hm hmm ht hv hn
   have hlen := (D0 t.size t i (Nat.le_refl _) ht hv).1
   cases shape ht hv with
   | leaf h hx hN hs =>
     rename_i op a b c nn nm
     have hm2 := Z6 op
     obtain ⟨hnb, _⟩ := L2 hn
     refine ⟨fun _ => c1t (b1f (op := op) (by omega)) hlen ?_, fun h28 => by have h28 : op = 28 := h28; omega⟩
     intro L k o hL hr h0 ho hnx
     rw [c6W] at ho
     rw [X8 h] at hr hnx ⊢
     obtain ⟨⟨x, hx1⟩, _⟩ := hr
     have hk := C0 hx1
     have hw := C6 (show k < 4611686018427387904 by omega)
     refine K0 hx1 h0 (by omega) ?_
     rcases h with rfl | rfl | rfl
     · have hnm : nm = [] := by
        cases nm with
        | nil => rfl
        | cons x r => have := hs.1 (by simp); omega
       subst hnm
       have hkd := a8e (n := nn) (by omega)
       have hil := X3 nn
       simp only [if_true] at hx1 hnx ⊢
       refine b4h ?_
       rw [hkd]
       simp only [r46, show ((2 : Int) == 2) = true from rfl, cond_true, a0a (show (J9 nn).length ≤ 1000000 by omega), b3s (n := nn) (by omega), bind_some, jn0 (op := 1) (n := nn) (nm := []) (by decide) (by decide) rfl, hw, length_cons, length_nil]
     · have hnm : nm = [] := by
        cases nm with
        | nil => rfl
        | cons x r => have := hs.1 (by simp); omega
       subst hnm
       have hm1 : F2 2 = 1 := rfl
       have hb : nn = 0 ∨ nn = 1 := by omega
       simp only [show ¬ ((2 : Int) = 1) by decide, if_false, if_true] at hx1 hnx ⊢
       have ht2 : c58 T.rf [116, 114, 117, 101] = some 0 := b6L rfl
       have hf2 : c58 T.rf [102, 97, 108, 115, 101] = some 0 := b6L rfl
       rcases hb with rfl | rfl
       · have bb := l0 (u := [102, 97, 108, 115, 101]) hx1 (.inr b0B)
         have j2 := Q9 (op := 2) (n := 0) (nm := []) (ts := []) (by decide) (by decide) rfl trivial (by simp [l7])
         rw [List.map_nil] at j2
         refine J3 (by omega) (.inr b0B) ?_
         show a3L L k (o + 1) [102, 97, 108, 115, 101] = _
         simp only [a3L, hf2, bind_some, show ((0 : Int) == 25) = false from rfl, show decide ((0 : Int) > 0) = false from rfl, bb, show (([102, 97, 108, 115, 101] : Str) == [116, 114, 117, 101]) = false from rfl, beq_self_eq_true, cond_true, cond_false, j2]
         rfl
       · have bb := l0 (u := [116, 114, 117, 101]) hx1 (.inr b3n)
         have j2 := Q9 (op := 2) (n := 1) (nm := []) (ts := []) (by decide) (by decide) rfl trivial (by simp [l7])
         rw [List.map_nil] at j2
         refine J3 (by omega) (.inr b3n) ?_
         show a3L L k (o + 1) [116, 114, 117, 101] = _
         simp only [a3L, ht2, bind_some, show ((0 : Int) == 25) = false from rfl, show decide ((0 : Int) > 0) = false from rfl, bb, beq_self_eq_true, cond_true, cond_false, j2]
         rfl
     · have hN0 : nn = 0 := by have : F2 3 = 0 := rfl; omega
       subst hN0
       have hkd := a2P (a2S hnb (hs.2 rfl))
       simp only [show ¬ ((3 : Int) = 1) by decide, show ¬ ((3 : Int) = 2) by decide, if_false] at hx1 hnx ⊢
       simp only [length_cons, length_nil, Nat.zero_add] at hnx ⊢
       have h40 : isB L (k + 1) [40] = false := b0V (by rw [show lvl [40] = 9 by decide]; exact hnx)
       have hnmd : c53 T.rf ((L, ((k : Nat) : Int), o + 1, (0 : Int), (0 : Int)) : RS) nm = some (((L, ((k + 1 : Nat) : Int), o + 1, (0 : Int), (0 : Int)) : RS), flat (.mk (3, -1, -1, -1, 0, nm) []) 0) := b6J (by
        simp only [r53, hw, s7 L (show k + 1 ≤ 2000000000 by omega), h40, cond_false, bind_some, Bool.not_false, cond_true, jn0 (op := 3) (n := 0) (nm := nm) (by decide) (by decide) rfl])
       refine b4h ?_
       rw [hkd]
       simp only [r46, show ((1 : Int) == 2) = false from rfl, show ((1 : Int) == 1) = true from rfl, cond_true, cond_false, hnmd, bind_some]
   | call0 hx hN hs =>
     rename_i b c nn nm
     subst hN
     obtain ⟨hnb, _⟩ := L2 hn
     refine ⟨fun _ => c1t (b1f (op := 27) (by decide)) hlen ?_, fun h28 => by cases h28⟩
     intro L k o hL hr h0 ho hnx
     rw [c6W] at ho
     rw [R9] at hr ⊢
     obtain ⟨⟨x, hx1⟩, ⟨x2, hx2⟩, ⟨x3, hx3⟩, _⟩ := hr
     have hk := C0 hx3
     have hw := C6 (show k < 4611686018427387904 by omega)
     refine K0 hx1 h0 (by omega) ?_
     have hkd := a2P (a2S hnb hs)
     have b2 := l0 hx2 (.inl b3Q) [40]
     have b3 := l0 hx3 (.inl b0X) [41]
     rw [beq_self_eq_true] at b2 b3
     have hA : c56 T.rf ((L, ((k + 1 + 1 : Nat) : Int), o + 1, (0 : Int), (0 : Int)) : RS) = some (((L, ((k + 1 + 1 + 1 : Nat) : Int), o + 1, (0 : Int), (0 : Int)) : RS), []) := b6K (by
      simp only [r56, s7 L (show k + 1 + 1 ≤ 2000000000 by omega), b3, cond_true, bind_some])
     have hj := jnC (nm := nm) (ts := []) trivial (by simp [l7])
     rw [List.map_nil] at hj
     have hnmd : c53 T.rf ((L, ((k : Nat) : Int), o + 1, (0 : Int), (0 : Int)) : RS) nm = some (((L, ((k + 1 + 1 + 1 : Nat) : Int), o + 1, (0 : Int), (0 : Int)) : RS), flat (.mk (27, -1, -1, -1, 0, nm) []) 0) := b6J (by
      simp only [r53, hw, s7 L (show k + 1 ≤ 2000000000 by omega), b2, cond_true, bind_some, Bool.not_true, cond_false, hA, z0, hj]
      rfl)
     refine b4h ?_
     rw [hkd]
     simp only [r46, show ((1 : Int) == 2) = false from rfl, show ((1 : Int) == 1) = true from rfl, cond_true, cond_false, hnmd, bind_some]
     rfl
   | call1 hx hN hs hj ht1 hv1 ho1 =>
     rename_i b c nn nm j t1
     subst hN
     rw [P1] at hm
     obtain ⟨hnb, hnl⟩ := L2 hn
     rw [j7, j7, Bool.and_true] at hnl
     obtain ⟨ts, a1, a2, a3, a4⟩ := (ih t1 j (by omega) (by omega) ht1 hv1 hnl).2 ho1
     obtain ⟨s1, r1, g1, g2⟩ := b0C t1.size t1 j (Nat.le_refl _) ht1 hv1 hnl
     refine ⟨fun _ => c1t (b1f (op := 27) (by decide)) hlen ?_, fun h28 => by cases h28⟩
     intro L k o hL hr h0 ho hnx
     rw [c5h] at ho
     have hd := a1b t1
     rw [S0] at hr ⊢
     obtain ⟨⟨x, hx1⟩, ⟨x2, hx2⟩, hr3⟩ := hr
     obtain ⟨hr4, ⟨x3, hx3⟩, _⟩ := l5.1 hr3
     have hk := C0 hx3
     have hw := C6 (show k < 4611686018427387904 by omega)
     refine K0 hx1 h0 (by omega) ?_
     have hkd := a2P (a2S hnb hs)
     have b2 := l0 hx2 (.inl b3Q) [40]
     have b3 := l0 hx3 (.inl b0X) [41]
     rw [beq_self_eq_true] at b2 b3
     have b4 : isB L (k + 1 + 1) [41] = false := by
      rw [g1] at hr4
      obtain ⟨⟨x4, hx4⟩, _⟩ := hr4
      unfold isB
      rw [hx4]
      simp only
      rw [beq_eq_false_iff_ne.2 g2, Bool.and_false]
     have hloop := a4 L (k + 1 + 1) (o + 1) [] (.inl (((L, ((k + 1 + 1 + (j8 t1).length + 1 : Nat) : Int), o + 1, (0 : Int), (0 : Int)) : RS), ts.map fun t => flat t 0)) hL hr4 (by omega) (by omega) (by simp only [length_nil]; omega) (.inl b3) (by
      simp only [a4W, s7 L (show k + 1 + 1 + (j8 t1).length ≤ 2000000000 by omega), b3, cond_true, bind_some, List.nil_append])
     have hA : c56 T.rf ((L, ((k + 1 + 1 : Nat) : Int), o + 1, (0 : Int), (0 : Int)) : RS) = some (((L, ((k + 1 + 1 + (j8 t1).length + 1 : Nat) : Int), o + 1, (0 : Int), (0 : Int)) : RS), ts.map fun t => flat t 0) := b6K (by
      simp only [r56, s7 L (show k + 1 + 1 ≤ 2000000000 by omega), b4, cond_false, bind_some, hloop])
     have hj := jnC (nm := nm) (ts := ts) a1 (by omega)
     have hct : a0z nm ts = .mk (27, -1, -1, -1, 0, nm) [t1] := by
      have := a3 []
      rw [List.append_nil] at this
      rw [a0z, this]; rfl
     rw [hct] at hj
     have hnmd : c53 T.rf ((L, ((k : Nat) : Int), o + 1, (0 : Int), (0 : Int)) : RS) nm = some (((L, ((k + 1 + 1 + (j8 t1).length + 1 : Nat) : Int), o + 1, (0 : Int), (0 : Int)) : RS), flat (.mk (27, -1, -1, -1, 0, nm) [t1]) 0) := b6J (by
      simp only [r53, hw, s7 L (show k + 1 ≤ 2000000000 by omega), b2, cond_true, bind_some, Bool.not_true, cond_false, hA, z0, hj])
     have el : k + (nm :: [40] :: (j8 t1 ++ [[41]])).length = k + 1 + 1 + (j8 t1).length + 1 := by simp only [length_cons, length_append, length_nil]; omega
     rw [el]
     refine b4h ?_
     rw [hkd]
     simp only [r46, show ((1 : Int) == 2) = false from rfl, show ((1 : Int) == 1) = true from rfl, cond_true, cond_false, hnmd, bind_some]
   | arg1 hx hN hs hj ht1 hv1 ho1 =>
     rename_i c nn nm j t1
     subst hN; subst hs
     rw [P1] at hm
     obtain ⟨hnb, hnl⟩ := L2 hn
     rw [j7, j7, Bool.and_true] at hnl
     have hp := (ih t1 j (by omega) (by omega) ht1 hv1 hnl).1 ho1
     refine ⟨fun h28 => absurd rfl h28, fun _ => ⟨[t1], ⟨hv1, trivial⟩, by rw [P1]; simp [l7], fun r => rfl, ?_⟩⟩
     intro L k o out y hL hr h0 ho hout hc hy
     rw [c5h] at ho
     rw [X6] at hr hc hy hlen
     have hl := G2 hr hlen
     have hA := (hp L k o hL hr h0 (by omega)).1 1 (by omega) (by omega) (.inl rfl) (b0n hc)
     exact Q3 rfl hA (by omega) hy
   | arg2 hx hN hs hj ht1 hv1 ho1 hk hu hvu hou =>
     rename_i c nn nm j kk t1 u1
     subst hN; subst hs
     rw [Q1] at hm
     obtain ⟨hnb, hnl⟩ := L2 hn
     rw [j7, j7, j7, Bool.and_true, Bool.and_eq_true] at hnl
     obtain ⟨ts, a1, a2, a3, a4⟩ := (ih t1 j (by omega) (by omega) ht1 hv1 hnl.1).2 ho1
     have hp := (ih u1 kk (by omega) (by omega) hu hvu hnl.2).1 hou
     have vapp : ∀ (a : List Tr) (b : Tr), L9 a → Valid b → L9 (a ++ [b]) := by
      intro a
      induction a with
      | nil => intro b _ hb; exact ⟨hb, trivial⟩
      | cons x a iha => intro b h1 h2; exact ⟨h1.1, iha b h1.2 h2⟩
     have sapp : ∀ (a : List Tr) (b : Tr), l7 (a ++ [b]) = l7 a + b.size := by
      intro a
      induction a with
      | nil => intro b; simp [l7]
      | cons x a iha => intro b; rw [List.cons_append, l7, l7, iha b]; omega
     refine ⟨fun h28 => absurd rfl h28, fun _ => ⟨ts ++ [u1], vapp ts u1 a1 hvu, by rw [Q1, sapp, length_append]; simp only [length_cons, length_nil]; omega, fun r => by rw [List.append_assoc, a3]; rfl, ?_⟩⟩
     intro L k o out y hL hr h0 ho hout hc hy
     have hd2 := c6X (28, -1, -1, -1, 0, []) t1 u1
     rw [Q1] at hout
     rw [X7] at hr hc hy
     have lu := (D0 u1.size u1 kk (Nat.le_refl _) hu hvu).1
     obtain ⟨hr1, ⟨x2, hx2⟩, hr3⟩ := l5.1 hr
     have hl := G2 hr3 lu
     have b2 := l0 hx2 (.inl c5x)
     have el : k + (j8 t1 ++ [44] :: j8 u1).length = k + (j8 t1).length + 1 + (j8 u1).length := by simp only [length_cons, length_append]; omega
     rw [el] at hc hy
     have hA := (hp L (k + (j8 t1).length + 1) o hL hr3 h0 (by omega)).1 1 (by omega) (by omega) (.inl rfl) (b0n hc)
     rw [List.map_append, List.map_cons, List.map_nil, ← List.append_assoc] at hy
     have hst := Q3 (r := ((L, ((k + (j8 t1).length + 1 : Nat) : Int), o, (0 : Int), (0 : Int)) : RS)) rfl hA (out := out ++ ts.map fun t => flat t 0) (by simp only [length_append, List.length_map]; omega) hy
     refine a4 L k o out y hL hr1 h0 (by omega) (by omega) (.inr (by rw [b2]; rfl)) ?_
     simp only [a4W, s7 L (show k + (j8 t1).length ≤ 2000000000 by omega), b2, show (([44] : Str) == [41]) = false from rfl, cond_false, bind_some, a4G (show k + (j8 t1).length ≤ 2000000000 by omega) o (show isB L (k + (j8 t1).length) [44] = true by rw [b2]; rfl)]
     exact hst
   | ite hx hN hs hj ht1 hv1 ho1 hk hu hvu hou hl hw3 hvw how =>
     rename_i nn nm j kk l t1 u1 v1
     subst hN; subst hs
     rw [b0x] at hm
     obtain ⟨hnb, hnl⟩ := L2 hn
     rw [j7, j7, j7, j7, Bool.and_true, Bool.and_eq_true, Bool.and_eq_true] at hnl
     have p1 := (ih t1 j (by omega) (by omega) ht1 hv1 hnl.1).1 ho1
     have p2 := (ih u1 kk (by omega) (by omega) hu hvu hnl.2.1).1 hou
     have p3 := (ih v1 l (by omega) (by omega) hw3 hvw hnl.2.2).1 how
     have l1 := (D0 t1.size t1 j (Nat.le_refl _) ht1 hv1).1
     have l2 := (D0 u1.size u1 kk (Nat.le_refl _) hu hvu).1
     have l3 := (D0 v1.size v1 l (Nat.le_refl _) hw3 hvw).1
     refine ⟨fun _ => ?_, fun h28 => by cases h28⟩
     intro L k o hL hr h0 ho
     have hd := d3B (26, -1, -1, -1, 0, []) t1 u1 v1
     have hdp := a1b t1
     rw [a0T] at hr ⊢
     obtain ⟨⟨x, hx1⟩, hr2⟩ := hr
     obtain ⟨hrA, ⟨x2, hx2⟩, hr3⟩ := l5.1 hr2
     obtain ⟨hrB, ⟨x3, hx3⟩, hrC⟩ := l5.1 hr3
     have hlC := G2 hrC l3
     have el : k + (opX 26 :: (j8 t1 ++ [116, 104, 101, 110] :: (j8 u1 ++ [101, 108, 115, 101] :: j8 v1))).length = k + 1 + (j8 t1).length + 1 + (j8 u1).length + 1 + (j8 v1).length := by simp only [length_cons, length_append]; omega
     rw [el]
     have b1 := l0 hx1 (.inr b9T)
     have b2 := l0 hx2 (.inr b9U) [116, 104, 101, 110]
     have b3 := l0 hx3 (.inr b9S) [101, 108, 115, 101]
     rw [beq_self_eq_true] at b2 b3
     have n2 := a1g b2
     have n3 := a1g b3
     rw [show lvl [116, 104, 101, 110] = 0 by decide] at n2
     rw [show lvl [101, 108, 115, 101] = 0 by decide] at n3
     have main : nxt L (k + 1 + (j8 t1).length + 1 + (j8 u1).length + 1 + (j8 v1).length) < 1 → rd 9 ((L, ((k : Nat) : Int), o, (0 : Int), (0 : Int)) : RS) = some (((L, ((k + 1 + (j8 t1).length + 1 + (j8 u1).length + 1 + (j8 v1).length : Nat) : Int), o, (0 : Int), (0 : Int)) : RS), flat (.mk (26, -1, -1, -1, 0, []) [t1, u1, v1]) 0) := by
      intro hn1
      have w1 := (p1 L (k + 1) (o + 1) hL hrA (by omega) (by omega)).1 1 (by omega) (by omega) (.inl rfl) (by omega)
      have w2 := (p2 L (k + 1 + (j8 t1).length + 1) (o + 1) hL hrB (by omega) (by omega)).1 1 (by omega) (by omega) (.inl rfl) (by omega)
      have w3 := (p3 L (k + 1 + (j8 t1).length + 1 + (j8 u1).length + 1) (o + 1) hL hrC (by omega) (by omega)).1 1 (by omega) (by omega) (.inl rfl) hn1
      simp only [rd] at w1 w2 w3
      have hch : c60 T.rf ((L, ((k + 1 : Nat) : Int), o + 1, (0 : Int), (0 : Int)) : RS) = some (((L, ((k + 1 + (j8 t1).length + 1 + (j8 u1).length + 1 + (j8 v1).length : Nat) : Int), o + 1, (0 : Int), (0 : Int)) : RS), flat (.mk (26, -1, -1, -1, 0, []) [t1, u1, v1]) 0) := b4i (by
       simp only [r60, w1, bind_some, a4G (show k + 1 + (j8 t1).length ≤ 2000000000 by omega) (o + 1) b2, w2, a4G (show k + 1 + (j8 t1).length + 1 + (j8 u1).length ≤ 2000000000 by omega) (o + 1) b3, w3, z0, cond_false, jn3 hv1 (show t1.size ≤ 100000 by omega) hvu (show u1.size ≤ 100000 by omega) hvw (show v1.size ≤ 100000 by omega)])
      refine K0 hx1 h0 (by omega) (J3 (by omega) (.inr b9T) ?_)
      have hpi : c58 T.rf (opX 26) = some 0 := b6L rfl
      show a3L L k (o + 1) (opX 26) = _
      simp only [a3L, hpi, bind_some, show ((0 : Int) == 25) = false from rfl, show decide ((0 : Int) > 0) = false from rfl, b1, show ((opX 26 : Str) == [116, 114, 117, 101]) = false from rfl, show ((opX 26 : Str) == [102, 97, 108, 115, 101]) = false from rfl, show ((opX 26 : Str) == [40]) = false from rfl, show ((opX 26 : Str) == [105, 102]) = true from rfl, cond_true, cond_false, hch]
     refine ⟨fun p q1 q9 hp hn => ?_, fun l hl hl2 => ?_⟩
     · have hp1 : p = 1 := by
        rcases hp with hp | hp
        · exact hp
        · have : lvX (Tr.mk (26, -1, -1, -1, 0, []) [t1, u1, v1]).op = 0 := rfl
          omega
       subst hp1
       exact a8x (by omega) 9 1 9 (by omega) (by omega) (by omega) (by omega) (main hn) hn
     · have : lvX (Tr.mk (26, -1, -1, -1, 0, []) [t1, u1, v1]).op = 0 := rfl
       unfold LA at hl; omega
   | un h hx hN hs hj ht1 hv1 ho1 =>
     rename_i op b c nn nm j t1
     subst hs
     have hm2 := Z6 op
     rw [P1] at hm
     obtain ⟨hnb, hnl⟩ := L2 hn
     rw [j7, j7, Bool.and_true] at hnl
     have p1 := (ih t1 j (by omega) (by omega) ht1 hv1 hnl).1 ho1
     have l1 := (D0 t1.size t1 j (Nat.le_refl _) ht1 hv1).1
     have hlv := c3N h
     refine ⟨fun _ => c1t (by show 9 ≤ lvX op; omega) hlen ?_, fun h28 => by have h28 : op = 28 := h28; omega⟩
     intro L k o hL hr h0 ho hnx
     rw [c5h] at ho
     have hd := a1b t1
     have hpl := R4 9 (t1.op, j8 t1)
     simp only at hpl
     rw [a3b h] at hr hnx ⊢
     obtain ⟨⟨x, hx1⟩, hr2⟩ := hr
     have hk0 := C0 hx1
     by_cases h25 : op = 25
     · subst h25
       simp only [if_true, List.singleton_append] at hr2 hnx ⊢
       obtain ⟨⟨x2, hx2⟩, hr3⟩ := hr2
       have hl3 := G2 hr3 (by omega)
       have el : k + (opX 25 :: J9 nn :: n8 9 (t1.op, j8 t1)).length = k + 1 + 1 + (n8 9 (t1.op, j8 t1)).length := by simp only [length_cons]; omega
       rw [el] at hnx ⊢
       have w := (p1.part l1 hL (a := 9) (by omega) (by omega) (o := o + 1) (by omega) (by omega) hr3).1 hnx
       simp only [rd] at w
       rw [show ((9 : Nat) : Int) = (9 : Int) from rfl] at w
       have hkd := a8e (n := nn) (by omega)
       have hil := X3 nn
       have hw1 := C6 (show k < 4611686018427387904 by omega)
       have hw2 := C6 (show k + 1 < 4611686018427387904 by omega)
       rw [hkd] at hx2
       have hm1000 : F2 25 = 1000 := rfl
       have hwi : c59 T.rf ((L, ((k : Nat) : Int), o + 1, (0 : Int), (0 : Int)) : RS) = some (((L, ((k + 1 + 1 + (n8 9 (t1.op, j8 t1)).length : Nat) : Int), o + 1, (0 : Int), (0 : Int)) : RS), flat (.mk (25, -1, -1, -1, nn, []) [t1]) 0) := b6M (by
        simp only [r59, hw1, hw2, df (show ¬ (((k + 1 : Nat) : Int) ≥ ((L.length : Nat) : Int)) by omega), D2 (show (0 : Int) ≤ ((k + 1 : Nat) : Int) by omega) (show ((k + 1 : Nat) : Int) < ((L.length : Nat) : Int) by omega), Int.toNat_natCast, hx2, bind_some, show ((2 : Int) != 2) = false from rfl, cond_true, cond_false, a0a (show (J9 nn).length ≤ 1000000 by omega), b3s (n := nn) (by omega), df (show ¬ nn > 1000 by omega), w, z0, jn1 (op := 25) (n := nn) h hv1 (show t1.size ≤ 100000 by omega)])
       refine K0 hx1 h0 (by omega) (J3 (by omega) (a6S (op := 25) (by omega)) ?_)
       show a3L L k (o + 1) (opX 25) = _
       simp only [a3L, b9m h, bind_some, show ((25 : Int) == 25) = true from rfl, cond_true, hwi]
     · have hN0 : nn = 0 := by
        have : F2 op = 0 := by unfold F2; rw [if_neg (by omega), if_neg (by omega), if_neg h25]
        omega
       subst hN0
       simp only [if_neg h25, List.nil_append] at hr2 hnx ⊢
       have hl3 := G2 hr2 (by omega)
       have el : k + (opX op :: n8 9 (t1.op, j8 t1)).length = k + 1 + (n8 9 (t1.op, j8 t1)).length := by simp only [length_cons]; omega
       rw [el] at hnx ⊢
       have w := (p1.part l1 hL (a := 9) (by omega) (by omega) (o := o + 1) (by omega) (by omega) hr2).1 hnx
       simp only [rd] at w
       rw [show ((9 : Nat) : Int) = (9 : Int) from rfl] at w
       refine K0 hx1 h0 (by omega) (J3 (by omega) (a6S (op := op) (by omega)) ?_)
       show a3L L k (o + 1) (opX op) = _
       simp only [a3L, b9m h, bind_some, bf h25, dt (show op > 0 by omega), cond_true, cond_false, w, z0, jn1 (op := op) (n := 0) h hv1 (show t1.size ≤ 100000 by omega)]
   | bin h hx hN hs hj ht1 hv1 ho1 hk hu hvu hou =>
     rename_i op c nn nm j kk t1 u1
     subst hN; subst hs
     rw [Q1] at hm
     obtain ⟨hnb, hnl⟩ := L2 hn
     rw [j7, j7, j7, Bool.and_true, Bool.and_eq_true] at hnl
     have p1 := (ih t1 j (by omega) (by omega) ht1 hv1 hnl.1).1 ho1
     have p2 := (ih u1 kk (by omega) (by omega) hu hvu hnl.2).1 hou
     have l1 := (D0 t1.size t1 j (Nat.le_refl _) ht1 hv1).1
     have l2 := (D0 u1.size u1 kk (Nat.le_refl _) hu hvu).1
     refine ⟨fun _ => ?_, fun h28 => by have h28 : op = 28 := h28; omega⟩
     intro L k o hL hr h0 ho
     have hd := c6X (op, -1, -1, -1, 0, []) t1 u1
     rw [a0S h] at hr ⊢
     generalize hAA : a3r op = A at hr ⊢
     generalize hBB : a0w op = B at hr ⊢
     have q1 := R4 (A) (t1.op, j8 t1)
     have q2 := R4 (B) (u1.op, j8 u1)
     simp only at q1 q2
     obtain ⟨hr1, ⟨x, hx1⟩, hr3⟩ := l5.1 hr
     have hl3 := G2 hr3 (by omega)
     have el : k + (n8 (A) (t1.op, j8 t1) ++ opX op :: n8 (B) (u1.op, j8 u1)).length = k + (n8 (A) (t1.op, j8 t1)).length + 1 + (n8 (B) (u1.op, j8 u1)).length := by simp only [length_cons, length_append]; omega
     rw [el]
     have hnop := a0g hx1 (a6S (by omega))
     rw [c5A h] at hnop
     have hjn := b8s h hv1 (show t1.size ≤ 100000 by omega) hvu (show u1.size ≤ 100000 by omega)
     have hfj := join_eq L (k + (n8 (A) (t1.op, j8 t1)).length + 1 + (n8 (B) (u1.op, j8 u1)).length) o op (a := flat t1 0) (b := flat u1 0) (by rw [n6]; omega) (by rw [n6]; omega)
     rw [hjn] at hfj
     obtain ⟨l, hl1, hl2⟩ := c5Q h hx1
     have hlb := b8P h
     have hop : (Tr.mk (op, -1, -1, -1, 0, []) [t1, u1]).op = op := rfl
     rw [hop, hl1]
     have fin := both (q := l) (L := L) (k := k) (j := k + (n8 (A) (t1.op, j8 t1)).length + 1 + (n8 (B) (u1.op, j8 u1)).length) (o := o) (v := flat (.mk (op, -1, -1, -1, 0, []) [t1, u1]) 0) (by omega) (by omega) (by omega)
     have out : (nxt L (k + (n8 (A) (t1.op, j8 t1)).length + 1 + (n8 (B) (u1.op, j8 u1)).length) < (l : Int) → rd l ((L, ((k : Nat) : Int), o, (0 : Int), (0 : Int)) : RS) = some (((L, ((k + (n8 (A) (t1.op, j8 t1)).length + 1 + (n8 (B) (u1.op, j8 u1)).length : Nat) : Int), o, (0 : Int), (0 : Int)) : RS), flat (.mk (op, -1, -1, -1, 0, []) [t1, u1]) 0)) →
       (LA l → nxt L (k + (n8 (A) (t1.op, j8 t1)).length + 1 + (n8 (B) (u1.op, j8 u1)).length) < (l : Int) + 1 → ∀ y, lp l ((L, ((k + (n8 (A) (t1.op, j8 t1)).length + 1 + (n8 (B) (u1.op, j8 u1)).length : Nat) : Int), o, (0 : Int), (0 : Int)) : RS) (flat (.mk (op, -1, -1, -1, 0, []) [t1, u1]) 0) = some y → rd l ((L, ((k : Nat) : Int), o, (0 : Int), (0 : Int)) : RS) = some y) →
       (∀ p : Nat, 1 ≤ p → p ≤ 9 → (p = 1 ∨ (p : Int) ≤ (l : Int)) → nxt L (k + (n8 (A) (t1.op, j8 t1)).length + 1 + (n8 (B) (u1.op, j8 u1)).length) < (p : Int) → rd p ((L, ((k : Nat) : Int), o, (0 : Int), (0 : Int)) : RS) = some (((L, ((k + (n8 (A) (t1.op, j8 t1)).length + 1 + (n8 (B) (u1.op, j8 u1)).length : Nat) : Int), o, (0 : Int), (0 : Int)) : RS), flat (.mk (op, -1, -1, -1, 0, []) [t1, u1]) 0)) ∧
       (∀ l' : Nat, LA l' → (l' : Int) ≤ (l : Int) → nxt L (k + (n8 (A) (t1.op, j8 t1)).length + 1 + (n8 (B) (u1.op, j8 u1)).length) < (l' : Int) + 1 → ∀ y, lp l' ((L, ((k + (n8 (A) (t1.op, j8 t1)).length + 1 + (n8 (B) (u1.op, j8 u1)).length : Nat) : Int), o, (0 : Int), (0 : Int)) : RS) (flat (.mk (op, -1, -1, -1, 0, []) [t1, u1]) 0) = some y → rd l' ((L, ((k : Nat) : Int), o, (0 : Int), (0 : Int)) : RS) = some y) := fun f1 f2 => by
      obtain ⟨g1, g2⟩ := fin f1 f2
      exact ⟨fun p z1 z9 hp hn => g1 p z1 (by omega) hn, fun l' hl' hle hn y hy => g2 l' hl' (by omega) hn y hy⟩
     rcases hl2 with ⟨hLA, hq⟩ | ⟨h12, hq⟩ | ⟨h6, hq⟩
     ·
      have hleft : A = (l : Int) := by rw [← hAA]; unfold a3r; rw [hl1]; unfold LA at hLA; rw [if_neg (by omega), if_neg (by omega)]
      have hright : B = ((l + 1 : Nat) : Int) := by rw [← hBB]; unfold a0w; rw [hl1]; unfold LA at hLA; rw [if_neg (by omega)]; omega
      have l9 : l + 1 ≤ 9 := by omega
      subst hleft; subst hright
      have pa := (p1.part l1 hL (a := l) (by omega) (by omega) (o := o) h0 (by omega) hr1).2 hLA (by omega)
      have pb := (p2.part l2 hL (a := l + 1) (by omega) l9 (o := o) h0 (by omega) hr3).1
      have step : nxt L (k + (n8 (l : Int) (t1.op, j8 t1)).length + 1 + (n8 ((l + 1 : Nat) : Int) (u1.op, j8 u1)).length) < (l : Int) + 1 → ∀ y, lp l ((L, ((k + (n8 (l : Int) (t1.op, j8 t1)).length + 1 + (n8 ((l + 1 : Nat) : Int) (u1.op, j8 u1)).length : Nat) : Int), o, (0 : Int), (0 : Int)) : RS) (flat (.mk (op, -1, -1, -1, 0, []) [t1, u1]) 0) = some y → rd l ((L, ((k : Nat) : Int), o, (0 : Int), (0 : Int)) : RS) = some y := fun hn y hy => by
       refine pa y (a1j hLA (by omega) ?_)
       rw [hq]
       simp only [pb (by omega), bind_some, hfj, hy]
      exact out (fun hn => step (by omega) _ (a1j hLA (by omega) (by rw [b9g hLA hn]))) (fun _ hn y hy => step hn y hy)
     ·
      have hleft : A = ((l + 1 : Nat) : Int) := by rw [← hAA]; unfold a3r; rw [hl1, if_pos (by omega)]; omega
      have hright : B = (l : Int) := by rw [← hBB]; unfold a0w; rw [hl1, if_pos (by omega)]
      subst hleft; subst hright
      have pa := (p1.part l1 hL (a := l + 1) (by omega) (by omega) (o := o) h0 (by omega) hr1).1 (by omega)
      have pb := (p2.part l2 hL (a := l) (by omega) (by omega) (o := o) h0 (by omega) hr3).1
      refine out (fun hn => ?_) (fun hLA => by unfold LA at hLA; omega)
      refine b9D h12 (by omega) pa ?_
      rw [hq]
      simp only [pb hn, bind_some, hfj]
     ·
      subst h6
      have hleft : A = ((7 : Nat) : Int) := by rw [← hAA]; unfold a3r; rw [hl1, if_neg (by omega), if_pos (by omega)]; omega
      have hright : B = ((7 : Nat) : Int) := by rw [← hBB]; unfold a0w; rw [hl1, if_neg (by omega)]; omega
      subst hleft; subst hright
      have pa := (p1.part l1 hL (a := 7) (by omega) (by omega) (o := o) h0 (by omega) hr1).1 (by omega)
      have pb := (p2.part l2 hL (a := 7) (by omega) (by omega) (o := o) h0 (by omega) hr3).1
      refine out (fun hn => ?_) (fun hLA => by unfold LA at hLA; omega)
      refine rd6 (by omega) pa ?_
      rw [hq]
      simp only [pb (by omega), bind_some, cond_false, hfj]
end Go.Proofs.YtlobhcgbmpcdlaaGreatDoor.R
