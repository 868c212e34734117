import Derived.Test.YtlobhcgbmpcdlaaGreatDoorShwQ
open Option (bind_some)
open List (length_append length_cons length_nil)
namespace Go.Proofs.YtlobhcgbmpcdlaaGreatDoor.R
open Go Go.Bm Go.Proofs
set_option linter.unusedVariables false
set_option linter.unusedSimpArgs false
set_option maxRecDepth 4000
noncomputable def tailA (r : RS) (out : List (List Nd)) : Option ((RS × List (List Nd)) ⊕ RS) :=
 (c54 T.rf r ([41] : Str)).bind fun (y2 : RS × Bool) =>
   bif y2.2 then
    some (.inl (y2.1, out))
   else
    (c57 T.rf y2.1 ([44] : Str)).bind fun (y3 : RS) =>
    k25 T.rb y3 out
theorem args_step {r r' : RS} (h0 : r.2.2.2.1 = 0) {v : List Nd} (h : c36 T.rf r = some (r', v)) {out : List (List Nd)} (ho : out.length ≤ 2000000000) {y} (hy : tailA r' (out ++ [v]) = some y) :
  k25 T.rb r out = some y := ob25 (by
 simp only [b25, bt h0, cond_true, h, bind_some, ble_most (show out.length + 1 ≤ 274877906944 by omega), Bool.and_true]
 exact hy)
def ParA (t : Tr) : Prop := ∃ ts : List Tr, Valids ts ∧ sizes ts + ts.length ≤ t.size ∧ (∀ r, chn [] (ts ++ r) = chn [t] r) ∧
 ∀ (L : List Tok3) (k : Nat) (o : Int) (out : List (List Nd)) (y), L.length ≤ 1000000000 → Reads L k (toks t) → 0 ≤ o → o + 2 * dep t ≤ 201 → out.length + t.size ≤ 1000000 →
  (isB L (k + (toks t).length) [41] = true ∨ isB L (k + (toks t).length) [44] = true) → tailA ((L, ((k + (toks t).length : Nat) : Int), o, (0 : Int), (0 : Int)) : RS) (out ++ ts.map fun t => flat t 0) = some y →
  k25 T.rb ((L, ((k : Nat) : Int), o, (0 : Int), (0 : Int)) : RS) out = some y
theorem nxt_close {L : List Tok3} {j : Nat} (h : isB L j [41] = true ∨ isB L j [44] = true) : nxt L j < 1 := by
 rcases h with h | h
 · rw [isB_nxt h]; decide
 · rw [isB_nxt h]; decide
theorem jn0 {op n : Int} {nm : Str} (h27 : op ≠ 27) (h28 : op ≠ 28) (hk : (kids (op, -1, -1, -1, n, nm)).length = 0) : c47 T.rf op n nm [] = some (flat (.mk (op, -1, -1, -1, n, nm) []) 0) := by
 rw [refJoin_eq (by simp [total]) (by simp), ← join_flat (ts := []) h27 h28 hk trivial (by simp [sizes])]; rfl
theorem jn1 {op n : Int} {t : Tr} (h : op = 4 ∨ op = 5 ∨ op = 21 ∨ op = 22 ∨ op = 23 ∨ op = 24 ∨ op = 25) (hv : Valid t) (hs : t.size ≤ 100000) : c47 T.rf op n ([] : Str) [flat t 0] = some (flat (.mk (op, -1, -1, -1, n, []) [t]) 0) := by
 rw [refJoin_eq (by simp [total, flat_len]; omega) (by simp), ← join_flat (ts := [t]) (by omega) (by omega) (by rw [kids1 (by omega)]; rfl) ⟨hv, trivial⟩ (by simp [sizes]; omega)]; rfl
theorem jn2' {op : Int} {t u : Tr} (h : 6 ≤ op ∧ op ≤ 20) (hv : Valid t) (hs : t.size ≤ 100000) (hv2 : Valid u) (hs2 : u.size ≤ 100000) : join op 0 ([] : Str) [flat t 0, flat u 0] = flat (.mk (op, -1, -1, -1, 0, []) [t, u]) 0 := by
 have hk : kids (op, -1, -1, -1, 0, []) = [-1, -1] := by
  simp only [kids]; rw [if_neg (by omega), if_neg (by omega), if_neg (by omega), if_pos h]
 rw [← join_flat (ts := [t, u]) (by omega) (by omega) (by rw [hk]; rfl) ⟨hv, hv2, trivial⟩ (by simp [sizes]; omega)]; rfl
theorem jn3 {t u v : Tr} (hv : Valid t) (hs : t.size ≤ 100000) (hv2 : Valid u) (hs2 : u.size ≤ 100000) (hv3 : Valid v) (hs3 : v.size ≤ 100000) : c47 T.rf 26 0 ([] : Str) [flat t 0, flat u 0, flat v 0] = some (flat (.mk (26, -1, -1, -1, 0, []) [t, u, v]) 0) := by
 rw [refJoin_eq (by simp [total, flat_len]; omega) (by simp), ← join_flat (ts := [t, u, v]) (by decide) (by decide) rfl ⟨hv, hv2, hv3, trivial⟩ (by simp [sizes]; omega)]; rfl
theorem jnC {nm : Str} {ts : List Tr} (hv : Valids ts) (hs : sizes ts + ts.length ≤ 1000000) : c47 T.rf 27 0 nm (ts.map fun t => flat t 0) = some (flat (callT nm ts) 0) := by
 rw [refJoin_eq (by rw [total_flat]; omega) (by rw [List.length_map]; omega), join_call hv hs]
theorem par9 {t : Tr} (hlv : (9 : Int) ≤ lvX t.op) (hlen : 1 ≤ (toks t).length) (h : ∀ (L : List Tok3) (k : Nat) (o : Int), L.length ≤ 1000000000 → Reads L k (toks t) → 0 ≤ o → o + 2 * dep t ≤ 201 → nxt L (k + (toks t).length) < 9 → rd 9 ((L, ((k : Nat) : Int), o, (0 : Int), (0 : Int)) : RS) = some (((L, ((k + (toks t).length : Nat) : Int), o, (0 : Int), (0 : Int)) : RS), flat t 0)) : Par t := by
 intro L k o hL hr h0 ho
 have hl := Reads_len hr hlen
 obtain ⟨g1, g2⟩ := both (q := 9) (L := L) (k := k) (j := k + (toks t).length) (o := o) (v := flat t 0) (by omega) (by omega) (by omega) (fun hn => h L k o hL hr h0 ho hn) (fun hl => by unfold LA at hl; omega)
 exact ⟨fun p p1 p9 _ hn => g1 p p1 p9 hn, fun l hl hl2 hn y hy => g2 l hl (by unfold LA at hl; omega) hn y hy⟩
theorem pre_un {op : Int} (h : op = 4 ∨ op = 5 ∨ op = 21 ∨ op = 22 ∨ op = 23 ∨ op = 24 ∨ op = 25) : c58 T.rf (opX op) = some op := by
 rcases h with rfl | rfl | rfl | rfl | rfl | rfl | rfl <;> exact or58 rfl
theorem lv_leaf {op : Int} (h : op = 1 ∨ op = 2 ∨ op = 3 ∨ op = 27) : (9 : Int) ≤ lvX op := by
 rcases h with rfl | rfl | rfl | rfl <;> decide
theorem namesX {b : Nd} {ks : List Tr} (h : namesT (.mk b ks) = true) : nameN b = true ∧ namesL ks = true := by
 rw [namesT, Bool.and_eq_true] at h; exact h
theorem tok_then : kindX [116, 104, 101, 110] = 3 := by decide +kernel
theorem tok_else : kindX [101, 108, 115, 101] = 3 := by decide +kernel
theorem tok_true : kindX [116, 114, 117, 101] = 3 := by decide +kernel
theorem tok_false : kindX [102, 97, 108, 115, 101] = 3 := by decide +kernel
theorem tok_if : kindX (opX 26) = 3 := by decide +kernel
theorem par {e : List Nd} : ∀ (m : Nat) (t : Tr) (i : Nat), t.size ≤ m → m ≤ 100000 → Emb e i t → Valid t → namesT t = true → (t.op ≠ 28 → Par t) ∧ (t.op = 28 → ParA t) := by
 intro m
 induction m with
 | zero => intro t i h; have := t.size_pos; omega
 | succ m ih =>
   intro t i hm hmm ht hv hn
   have hlen := (toks_len t.size t i (Nat.le_refl _) ht hv).1
   cases shape ht hv with
   | leaf h hx hN hs =>
     rename_i op a b c nn nm
     have hm2 := mostN_le op
     obtain ⟨hnb, _⟩ := namesX hn
     refine ⟨fun _ => par9 (lv_leaf (op := op) (by omega)) hlen ?_, fun h28 => by have h28 : op = 28 := h28; omega⟩
     intro L k o hL hr h0 ho hnx
     rw [dep0] at ho
     rw [toks_leaf h] at hr hnx ⊢
     obtain ⟨⟨x, hx1⟩, _⟩ := hr
     have hk := nth_lt hx1
     have hw := wr_succ (show k < 4611686018427387904 by omega)
     refine operand_of hx1 h0 (by omega) ?_
     rcases h with rfl | rfl | rfl
     · have hnm : nm = [] := by
        cases nm with
        | nil => rfl
        | cons x r => have := hs.1 (by simp); omega
       subst hnm
       have hkd := kind_num (n := nn) (by omega)
       have hil := itoaX_len nn
       simp only [if_true] at hx1 hnx ⊢
       refine or46 ?_
       rw [hkd]
       simp only [r46, show ((2 : Int) == 2) = true from rfl, cond_true, value_eq (show (itoaX nn).length ≤ 1000000 by omega), val_itoa (n := nn) (by omega), bind_some, jn0 (op := 1) (n := nn) (nm := []) (by decide) (by decide) rfl, hw, length_cons, length_nil]
     · have hnm : nm = [] := by
        cases nm with
        | nil => rfl
        | cons x r => have := hs.1 (by simp); omega
       subst hnm
       have hm1 : mostN 2 = 1 := rfl
       have hb : nn = 0 ∨ nn = 1 := by omega
       simp only [show ¬ ((2 : Int) = 1) by decide, if_false, if_true] at hx1 hnx ⊢
       have ht2 : c58 T.rf [116, 114, 117, 101] = some 0 := or58 rfl
       have hf2 : c58 T.rf [102, 97, 108, 115, 101] = some 0 := or58 rfl
       rcases hb with rfl | rfl
       · have bb := isB_tok (u := [102, 97, 108, 115, 101]) hx1 (.inr tok_false)
         have j2 := join_flat (op := 2) (n := 0) (nm := []) (ts := []) (by decide) (by decide) rfl trivial (by simp [sizes])
         rw [List.map_nil] at j2
         refine begun_word (by omega) (.inr tok_false) ?_
         show begW L k (o + 1) [102, 97, 108, 115, 101] = _
         simp only [begW, hf2, bind_some, show ((0 : Int) == 25) = false from rfl, show decide ((0 : Int) > 0) = false from rfl, bb, show (([102, 97, 108, 115, 101] : Str) == [116, 114, 117, 101]) = false from rfl, beq_self_eq_true, cond_true, cond_false, j2]
         rfl
       · have bb := isB_tok (u := [116, 114, 117, 101]) hx1 (.inr tok_true)
         have j2 := join_flat (op := 2) (n := 1) (nm := []) (ts := []) (by decide) (by decide) rfl trivial (by simp [sizes])
         rw [List.map_nil] at j2
         refine begun_word (by omega) (.inr tok_true) ?_
         show begW L k (o + 1) [116, 114, 117, 101] = _
         simp only [begW, ht2, bind_some, show ((0 : Int) == 25) = false from rfl, show decide ((0 : Int) > 0) = false from rfl, bb, beq_self_eq_true, cond_true, cond_false, j2]
         rfl
     · have hN0 : nn = 0 := by have : mostN 3 = 0 := rfl; omega
       subst hN0
       have hkd := kind_name (nm_name hnb (hs.2 rfl))
       simp only [show ¬ ((3 : Int) = 1) by decide, show ¬ ((3 : Int) = 2) by decide, if_false] at hx1 hnx ⊢
       simp only [length_cons, length_nil, Nat.zero_add] at hnx ⊢
       have h40 : isB L (k + 1) [40] = false := isB_lt (by rw [show lvl [40] = 9 by decide]; exact hnx)
       have hnmd : c53 T.rf ((L, ((k : Nat) : Int), o + 1, (0 : Int), (0 : Int)) : RS) nm = some (((L, ((k + 1 : Nat) : Int), o + 1, (0 : Int), (0 : Int)) : RS), flat (.mk (3, -1, -1, -1, 0, nm) []) 0) := or53 (by
        simp only [r53, hw, take_eq L (show k + 1 ≤ 2000000000 by omega), h40, cond_false, bind_some, Bool.not_false, cond_true, jn0 (op := 3) (n := 0) (nm := nm) (by decide) (by decide) rfl])
       refine or46 ?_
       rw [hkd]
       simp only [r46, show ((1 : Int) == 2) = false from rfl, show ((1 : Int) == 1) = true from rfl, cond_true, cond_false, hnmd, bind_some]
   | call0 hx hN hs =>
     rename_i b c nn nm
     subst hN
     obtain ⟨hnb, _⟩ := namesX hn
     refine ⟨fun _ => par9 (lv_leaf (op := 27) (by decide)) hlen ?_, fun h28 => by cases h28⟩
     intro L k o hL hr h0 ho hnx
     rw [dep0] at ho
     rw [toks_call0] at hr ⊢
     obtain ⟨⟨x, hx1⟩, ⟨x2, hx2⟩, ⟨x3, hx3⟩, _⟩ := hr
     have hk := nth_lt hx3
     have hw := wr_succ (show k < 4611686018427387904 by omega)
     refine operand_of hx1 h0 (by omega) ?_
     have hkd := kind_name (nm_name hnb hs)
     have b2 := isB_tok hx2 (.inl kd40) [40]
     have b3 := isB_tok hx3 (.inl kd41) [41]
     rw [beq_self_eq_true] at b2 b3
     have hA : c56 T.rf ((L, ((k + 1 + 1 : Nat) : Int), o + 1, (0 : Int), (0 : Int)) : RS) = some (((L, ((k + 1 + 1 + 1 : Nat) : Int), o + 1, (0 : Int), (0 : Int)) : RS), []) := or56 (by
      simp only [r56, take_eq L (show k + 1 + 1 ≤ 2000000000 by omega), b3, cond_true, bind_some])
     have hj := jnC (nm := nm) (ts := []) trivial (by simp [sizes])
     rw [List.map_nil] at hj
     have hnmd : c53 T.rf ((L, ((k : Nat) : Int), o + 1, (0 : Int), (0 : Int)) : RS) nm = some (((L, ((k + 1 + 1 + 1 : Nat) : Int), o + 1, (0 : Int), (0 : Int)) : RS), flat (.mk (27, -1, -1, -1, 0, nm) []) 0) := or53 (by
      simp only [r53, hw, take_eq L (show k + 1 ≤ 2000000000 by omega), b2, cond_true, bind_some, Bool.not_true, cond_false, hA, z0, hj]
      rfl)
     refine or46 ?_
     rw [hkd]
     simp only [r46, show ((1 : Int) == 2) = false from rfl, show ((1 : Int) == 1) = true from rfl, cond_true, cond_false, hnmd, bind_some]
     rfl
   | call1 hx hN hs hj ht1 hv1 ho1 =>
     rename_i b c nn nm j t1
     subst hN
     rw [size1] at hm
     obtain ⟨hnb, hnl⟩ := namesX hn
     rw [namesL, namesL, Bool.and_true] at hnl
     obtain ⟨ts, a1, a2, a3, a4⟩ := (ih t1 j (by omega) (by omega) ht1 hv1 hnl).2 ho1
     obtain ⟨s1, r1, g1, g2⟩ := toks_head t1.size t1 j (Nat.le_refl _) ht1 hv1 hnl
     refine ⟨fun _ => par9 (lv_leaf (op := 27) (by decide)) hlen ?_, fun h28 => by cases h28⟩
     intro L k o hL hr h0 ho hnx
     rw [dep1] at ho
     have hd := dep_pos t1
     rw [toks_call1] at hr ⊢
     obtain ⟨⟨x, hx1⟩, ⟨x2, hx2⟩, hr3⟩ := hr
     obtain ⟨hr4, ⟨x3, hx3⟩, _⟩ := Reads_app.1 hr3
     have hk := nth_lt hx3
     have hw := wr_succ (show k < 4611686018427387904 by omega)
     refine operand_of hx1 h0 (by omega) ?_
     have hkd := kind_name (nm_name hnb hs)
     have b2 := isB_tok hx2 (.inl kd40) [40]
     have b3 := isB_tok hx3 (.inl kd41) [41]
     rw [beq_self_eq_true] at b2 b3
     have b4 : isB L (k + 1 + 1) [41] = false := by
      rw [g1] at hr4
      obtain ⟨⟨x4, hx4⟩, _⟩ := hr4
      unfold isB
      rw [hx4]
      simp only
      rw [beq_eq_false_iff_ne.2 g2, Bool.and_false]
     have hloop := a4 L (k + 1 + 1) (o + 1) [] (.inl (((L, ((k + 1 + 1 + (toks t1).length + 1 : Nat) : Int), o + 1, (0 : Int), (0 : Int)) : RS), ts.map fun t => flat t 0)) hL hr4 (by omega) (by omega) (by simp only [length_nil]; omega) (.inl b3) (by
      simp only [tailA, take_eq L (show k + 1 + 1 + (toks t1).length ≤ 2000000000 by omega), b3, cond_true, bind_some, List.nil_append])
     have hA : c56 T.rf ((L, ((k + 1 + 1 : Nat) : Int), o + 1, (0 : Int), (0 : Int)) : RS) = some (((L, ((k + 1 + 1 + (toks t1).length + 1 : Nat) : Int), o + 1, (0 : Int), (0 : Int)) : RS), ts.map fun t => flat t 0) := or56 (by
      simp only [r56, take_eq L (show k + 1 + 1 ≤ 2000000000 by omega), b4, cond_false, bind_some, hloop])
     have hj := jnC (nm := nm) (ts := ts) a1 (by omega)
     have hct : callT nm ts = .mk (27, -1, -1, -1, 0, nm) [t1] := by
      have := a3 []
      rw [List.append_nil] at this
      rw [callT, this]; rfl
     rw [hct] at hj
     have hnmd : c53 T.rf ((L, ((k : Nat) : Int), o + 1, (0 : Int), (0 : Int)) : RS) nm = some (((L, ((k + 1 + 1 + (toks t1).length + 1 : Nat) : Int), o + 1, (0 : Int), (0 : Int)) : RS), flat (.mk (27, -1, -1, -1, 0, nm) [t1]) 0) := or53 (by
      simp only [r53, hw, take_eq L (show k + 1 ≤ 2000000000 by omega), b2, cond_true, bind_some, Bool.not_true, cond_false, hA, z0, hj])
     have el : k + (nm :: [40] :: (toks t1 ++ [[41]])).length = k + 1 + 1 + (toks t1).length + 1 := by simp only [length_cons, length_append, length_nil]; omega
     rw [el]
     refine or46 ?_
     rw [hkd]
     simp only [r46, show ((1 : Int) == 2) = false from rfl, show ((1 : Int) == 1) = true from rfl, cond_true, cond_false, hnmd, bind_some]
   | arg1 hx hN hs hj ht1 hv1 ho1 =>
     rename_i c nn nm j t1
     subst hN; subst hs
     rw [size1] at hm
     obtain ⟨hnb, hnl⟩ := namesX hn
     rw [namesL, namesL, Bool.and_true] at hnl
     have hp := (ih t1 j (by omega) (by omega) ht1 hv1 hnl).1 ho1
     refine ⟨fun h28 => absurd rfl h28, fun _ => ⟨[t1], ⟨hv1, trivial⟩, by rw [size1]; simp [sizes], fun r => rfl, ?_⟩⟩
     intro L k o out y hL hr h0 ho hout hc hy
     rw [dep1] at ho
     rw [toks_arg1] at hr hc hy hlen
     have hl := Reads_len hr hlen
     have hA := (hp L k o hL hr h0 (by omega)).1 1 (by omega) (by omega) (.inl rfl) (nxt_close hc)
     exact args_step rfl hA (by omega) hy
   | arg2 hx hN hs hj ht1 hv1 ho1 hk hu hvu hou =>
     rename_i c nn nm j kk t1 u1
     subst hN; subst hs
     rw [size2] at hm
     obtain ⟨hnb, hnl⟩ := namesX hn
     rw [namesL, namesL, namesL, Bool.and_true, Bool.and_eq_true] at hnl
     obtain ⟨ts, a1, a2, a3, a4⟩ := (ih t1 j (by omega) (by omega) ht1 hv1 hnl.1).2 ho1
     have hp := (ih u1 kk (by omega) (by omega) hu hvu hnl.2).1 hou
     have vapp : ∀ (a : List Tr) (b : Tr), Valids a → Valid b → Valids (a ++ [b]) := by
      intro a
      induction a with
      | nil => intro b _ hb; exact ⟨hb, trivial⟩
      | cons x a iha => intro b h1 h2; exact ⟨h1.1, iha b h1.2 h2⟩
     have sapp : ∀ (a : List Tr) (b : Tr), sizes (a ++ [b]) = sizes a + b.size := by
      intro a
      induction a with
      | nil => intro b; simp [sizes]
      | cons x a iha => intro b; rw [List.cons_append, sizes, sizes, iha b]; omega
     refine ⟨fun h28 => absurd rfl h28, fun _ => ⟨ts ++ [u1], vapp ts u1 a1 hvu, by rw [size2, sapp, length_append]; simp only [length_cons, length_nil]; omega, fun r => by rw [List.append_assoc, a3]; rfl, ?_⟩⟩
     intro L k o out y hL hr h0 ho hout hc hy
     have hd2 := dep2 (28, -1, -1, -1, 0, []) t1 u1
     rw [size2] at hout
     rw [toks_arg2] at hr hc hy
     have lu := (toks_len u1.size u1 kk (Nat.le_refl _) hu hvu).1
     obtain ⟨hr1, ⟨x2, hx2⟩, hr3⟩ := Reads_app.1 hr
     have hl := Reads_len hr3 lu
     have b2 := isB_tok hx2 (.inl kd44)
     have el : k + (toks t1 ++ [44] :: toks u1).length = k + (toks t1).length + 1 + (toks u1).length := by simp only [length_cons, length_append]; omega
     rw [el] at hc hy
     have hA := (hp L (k + (toks t1).length + 1) o hL hr3 h0 (by omega)).1 1 (by omega) (by omega) (.inl rfl) (nxt_close hc)
     rw [List.map_append, List.map_cons, List.map_nil, ← List.append_assoc] at hy
     have hst := args_step (r := ((L, ((k + (toks t1).length + 1 : Nat) : Int), o, (0 : Int), (0 : Int)) : RS)) rfl hA (out := out ++ ts.map fun t => flat t 0) (by simp only [length_append, List.length_map]; omega) hy
     refine a4 L k o out y hL hr1 h0 (by omega) (by omega) (.inr (by rw [b2]; rfl)) ?_
     simp only [tailA, take_eq L (show k + (toks t1).length ≤ 2000000000 by omega), b2, show (([44] : Str) == [41]) = false from rfl, cond_false, bind_some, need_eq (show k + (toks t1).length ≤ 2000000000 by omega) o (show isB L (k + (toks t1).length) [44] = true by rw [b2]; rfl)]
     exact hst
   | ite hx hN hs hj ht1 hv1 ho1 hk hu hvu hou hl hw3 hvw how =>
     rename_i nn nm j kk l t1 u1 v1
     subst hN; subst hs
     rw [size3] at hm
     obtain ⟨hnb, hnl⟩ := namesX hn
     rw [namesL, namesL, namesL, namesL, Bool.and_true, Bool.and_eq_true, Bool.and_eq_true] at hnl
     have p1 := (ih t1 j (by omega) (by omega) ht1 hv1 hnl.1).1 ho1
     have p2 := (ih u1 kk (by omega) (by omega) hu hvu hnl.2.1).1 hou
     have p3 := (ih v1 l (by omega) (by omega) hw3 hvw hnl.2.2).1 how
     have l1 := (toks_len t1.size t1 j (Nat.le_refl _) ht1 hv1).1
     have l2 := (toks_len u1.size u1 kk (Nat.le_refl _) hu hvu).1
     have l3 := (toks_len v1.size v1 l (Nat.le_refl _) hw3 hvw).1
     refine ⟨fun _ => ?_, fun h28 => by cases h28⟩
     intro L k o hL hr h0 ho
     have hd := dep3 (26, -1, -1, -1, 0, []) t1 u1 v1
     have hdp := dep_pos t1
     rw [toks_ite] at hr ⊢
     obtain ⟨⟨x, hx1⟩, hr2⟩ := hr
     obtain ⟨hrA, ⟨x2, hx2⟩, hr3⟩ := Reads_app.1 hr2
     obtain ⟨hrB, ⟨x3, hx3⟩, hrC⟩ := Reads_app.1 hr3
     have hlC := Reads_len hrC l3
     have el : k + (opX 26 :: (toks t1 ++ [116, 104, 101, 110] :: (toks u1 ++ [101, 108, 115, 101] :: toks v1))).length = k + 1 + (toks t1).length + 1 + (toks u1).length + 1 + (toks v1).length := by simp only [length_cons, length_append]; omega
     rw [el]
     have b1 := isB_tok hx1 (.inr tok_if)
     have b2 := isB_tok hx2 (.inr tok_then) [116, 104, 101, 110]
     have b3 := isB_tok hx3 (.inr tok_else) [101, 108, 115, 101]
     rw [beq_self_eq_true] at b2 b3
     have n2 := isB_nxt b2
     have n3 := isB_nxt b3
     rw [show lvl [116, 104, 101, 110] = 0 by decide] at n2
     rw [show lvl [101, 108, 115, 101] = 0 by decide] at n3
     have main : nxt L (k + 1 + (toks t1).length + 1 + (toks u1).length + 1 + (toks v1).length) < 1 → rd 9 ((L, ((k : Nat) : Int), o, (0 : Int), (0 : Int)) : RS) = some (((L, ((k + 1 + (toks t1).length + 1 + (toks u1).length + 1 + (toks v1).length : Nat) : Int), o, (0 : Int), (0 : Int)) : RS), flat (.mk (26, -1, -1, -1, 0, []) [t1, u1, v1]) 0) := by
      intro hn1
      have w1 := (p1 L (k + 1) (o + 1) hL hrA (by omega) (by omega)).1 1 (by omega) (by omega) (.inl rfl) (by omega)
      have w2 := (p2 L (k + 1 + (toks t1).length + 1) (o + 1) hL hrB (by omega) (by omega)).1 1 (by omega) (by omega) (.inl rfl) (by omega)
      have w3 := (p3 L (k + 1 + (toks t1).length + 1 + (toks u1).length + 1) (o + 1) hL hrC (by omega) (by omega)).1 1 (by omega) (by omega) (.inl rfl) hn1
      simp only [rd] at w1 w2 w3
      have hch : c60 T.rf ((L, ((k + 1 : Nat) : Int), o + 1, (0 : Int), (0 : Int)) : RS) = some (((L, ((k + 1 + (toks t1).length + 1 + (toks u1).length + 1 + (toks v1).length : Nat) : Int), o + 1, (0 : Int), (0 : Int)) : RS), flat (.mk (26, -1, -1, -1, 0, []) [t1, u1, v1]) 0) := or60 (by
       simp only [r60, w1, bind_some, need_eq (show k + 1 + (toks t1).length ≤ 2000000000 by omega) (o + 1) b2, w2, need_eq (show k + 1 + (toks t1).length + 1 + (toks u1).length ≤ 2000000000 by omega) (o + 1) b3, w3, z0, cond_false, jn3 hv1 (show t1.size ≤ 100000 by omega) hvu (show u1.size ≤ 100000 by omega) hvw (show v1.size ≤ 100000 by omega)])
      refine operand_of hx1 h0 (by omega) (begun_word (by omega) (.inr tok_if) ?_)
      have hpi : c58 T.rf (opX 26) = some 0 := or58 rfl
      show begW L k (o + 1) (opX 26) = _
      simp only [begW, hpi, bind_some, show ((0 : Int) == 25) = false from rfl, show decide ((0 : Int) > 0) = false from rfl, b1, show ((opX 26 : Str) == [116, 114, 117, 101]) = false from rfl, show ((opX 26 : Str) == [102, 97, 108, 115, 101]) = false from rfl, show ((opX 26 : Str) == [40]) = false from rfl, show ((opX 26 : Str) == [105, 102]) = true from rfl, cond_true, cond_false, hch]
     refine ⟨fun p q1 q9 hp hn => ?_, fun l hl hl2 => ?_⟩
     · have hp1 : p = 1 := by
        rcases hp with hp | hp
        · exact hp
        · have : lvX (Tr.mk (26, -1, -1, -1, 0, []) [t1, u1, v1]).op = 0 := rfl
          omega
       subst hp1
       exact rd_chain (by omega) 9 1 9 (by omega) (by omega) (by omega) (by omega) (main hn) hn
     · have : lvX (Tr.mk (26, -1, -1, -1, 0, []) [t1, u1, v1]).op = 0 := rfl
       unfold LA at hl; omega
   | un h hx hN hs hj ht1 hv1 ho1 =>
     rename_i op b c nn nm j t1
     subst hs
     have hm2 := mostN_le op
     rw [size1] at hm
     obtain ⟨hnb, hnl⟩ := namesX hn
     rw [namesL, namesL, Bool.and_true] at hnl
     have p1 := (ih t1 j (by omega) (by omega) ht1 hv1 hnl).1 ho1
     have l1 := (toks_len t1.size t1 j (Nat.le_refl _) ht1 hv1).1
     have hlv := lv_un h
     refine ⟨fun _ => par9 (by show 9 ≤ lvX op; omega) hlen ?_, fun h28 => by have h28 : op = 28 := h28; omega⟩
     intro L k o hL hr h0 ho hnx
     rw [dep1] at ho
     have hd := dep_pos t1
     have hpl := partX_len 9 (t1.op, toks t1)
     simp only at hpl
     rw [toks_un h] at hr hnx ⊢
     obtain ⟨⟨x, hx1⟩, hr2⟩ := hr
     have hk0 := nth_lt hx1
     by_cases h25 : op = 25
     · subst h25
       simp only [if_true, List.singleton_append] at hr2 hnx ⊢
       obtain ⟨⟨x2, hx2⟩, hr3⟩ := hr2
       have hl3 := Reads_len hr3 (by omega)
       have el : k + (opX 25 :: itoaX nn :: partX 9 (t1.op, toks t1)).length = k + 1 + 1 + (partX 9 (t1.op, toks t1)).length := by simp only [length_cons]; omega
       rw [el] at hnx ⊢
       have w := (p1.part l1 hL (a := 9) (by omega) (by omega) (o := o + 1) (by omega) (by omega) hr3).1 hnx
       simp only [rd] at w
       rw [show ((9 : Nat) : Int) = (9 : Int) from rfl] at w
       have hkd := kind_num (n := nn) (by omega)
       have hil := itoaX_len nn
       have hw1 := wr_succ (show k < 4611686018427387904 by omega)
       have hw2 := wr_succ (show k + 1 < 4611686018427387904 by omega)
       rw [hkd] at hx2
       have hm1000 : mostN 25 = 1000 := rfl
       have hwi : c59 T.rf ((L, ((k : Nat) : Int), o + 1, (0 : Int), (0 : Int)) : RS) = some (((L, ((k + 1 + 1 + (partX 9 (t1.op, toks t1)).length : Nat) : Int), o + 1, (0 : Int), (0 : Int)) : RS), flat (.mk (25, -1, -1, -1, nn, []) [t1]) 0) := or59 (by
        simp only [r59, hw1, hw2, df (show ¬ (((k + 1 : Nat) : Int) ≥ ((L.length : Nat) : Int)) by omega), inb_t (show (0 : Int) ≤ ((k + 1 : Nat) : Int) by omega) (show ((k + 1 : Nat) : Int) < ((L.length : Nat) : Int) by omega), Int.toNat_natCast, hx2, bind_some, show ((2 : Int) != 2) = false from rfl, cond_true, cond_false, value_eq (show (itoaX nn).length ≤ 1000000 by omega), val_itoa (n := nn) (by omega), df (show ¬ nn > 1000 by omega), w, z0, jn1 (op := 25) (n := nn) h hv1 (show t1.size ≤ 100000 by omega)])
       refine operand_of hx1 h0 (by omega) (begun_word (by omega) (kind_op (op := 25) (by omega)) ?_)
       show begW L k (o + 1) (opX 25) = _
       simp only [begW, pre_un h, bind_some, show ((25 : Int) == 25) = true from rfl, cond_true, hwi]
     · have hN0 : nn = 0 := by
        have : mostN op = 0 := by unfold mostN; rw [if_neg (by omega), if_neg (by omega), if_neg h25]
        omega
       subst hN0
       simp only [if_neg h25, List.nil_append] at hr2 hnx ⊢
       have hl3 := Reads_len hr2 (by omega)
       have el : k + (opX op :: partX 9 (t1.op, toks t1)).length = k + 1 + (partX 9 (t1.op, toks t1)).length := by simp only [length_cons]; omega
       rw [el] at hnx ⊢
       have w := (p1.part l1 hL (a := 9) (by omega) (by omega) (o := o + 1) (by omega) (by omega) hr2).1 hnx
       simp only [rd] at w
       rw [show ((9 : Nat) : Int) = (9 : Int) from rfl] at w
       refine operand_of hx1 h0 (by omega) (begun_word (by omega) (kind_op (op := op) (by omega)) ?_)
       show begW L k (o + 1) (opX op) = _
       simp only [begW, pre_un h, bind_some, bf h25, dt (show op > 0 by omega), cond_true, cond_false, w, z0, jn1 (op := op) (n := 0) h hv1 (show t1.size ≤ 100000 by omega)]
   | bin h hx hN hs hj ht1 hv1 ho1 hk hu hvu hou =>
     rename_i op c nn nm j kk t1 u1
     subst hN; subst hs
     rw [size2] at hm
     obtain ⟨hnb, hnl⟩ := namesX hn
     rw [namesL, namesL, namesL, Bool.and_true, Bool.and_eq_true] at hnl
     have p1 := (ih t1 j (by omega) (by omega) ht1 hv1 hnl.1).1 ho1
     have p2 := (ih u1 kk (by omega) (by omega) hu hvu hnl.2).1 hou
     have l1 := (toks_len t1.size t1 j (Nat.le_refl _) ht1 hv1).1
     have l2 := (toks_len u1.size u1 kk (Nat.le_refl _) hu hvu).1
     refine ⟨fun _ => ?_, fun h28 => by have h28 : op = 28 := h28; omega⟩
     intro L k o hL hr h0 ho
     have hd := dep2 (op, -1, -1, -1, 0, []) t1 u1
     rw [toks_bin h] at hr ⊢
     generalize hAA : leftX op = A at hr ⊢
     generalize hBB : rightX op = B at hr ⊢
     have q1 := partX_len (A) (t1.op, toks t1)
     have q2 := partX_len (B) (u1.op, toks u1)
     simp only at q1 q2
     obtain ⟨hr1, ⟨x, hx1⟩, hr3⟩ := Reads_app.1 hr
     have hl3 := Reads_len hr3 (by omega)
     have el : k + (partX (A) (t1.op, toks t1) ++ opX op :: partX (B) (u1.op, toks u1)).length = k + (partX (A) (t1.op, toks t1)).length + 1 + (partX (B) (u1.op, toks u1)).length := by simp only [length_cons, length_append]; omega
     rw [el]
     have hnop := nxt_tok hx1 (kind_op (by omega))
     rw [lvl_op h] at hnop
     have hjn := jn2' h hv1 (show t1.size ≤ 100000 by omega) hvu (show u1.size ≤ 100000 by omega)
     have hfj := join_eq L (k + (partX (A) (t1.op, toks t1)).length + 1 + (partX (B) (u1.op, toks u1)).length) o op (a := flat t1 0) (b := flat u1 0) (by rw [flat_len]; omega) (by rw [flat_len]; omega)
     rw [hjn] at hfj
     obtain ⟨l, hl1, hl2⟩ := opq_op h hx1
     have hlb := lv_bin h
     have hop : (Tr.mk (op, -1, -1, -1, 0, []) [t1, u1]).op = op := rfl
     rw [hop, hl1]
     have fin := both (q := l) (L := L) (k := k) (j := k + (partX (A) (t1.op, toks t1)).length + 1 + (partX (B) (u1.op, toks u1)).length) (o := o) (v := flat (.mk (op, -1, -1, -1, 0, []) [t1, u1]) 0) (by omega) (by omega) (by omega)
     have out : (nxt L (k + (partX (A) (t1.op, toks t1)).length + 1 + (partX (B) (u1.op, toks u1)).length) < (l : Int) → rd l ((L, ((k : Nat) : Int), o, (0 : Int), (0 : Int)) : RS) = some (((L, ((k + (partX (A) (t1.op, toks t1)).length + 1 + (partX (B) (u1.op, toks u1)).length : Nat) : Int), o, (0 : Int), (0 : Int)) : RS), flat (.mk (op, -1, -1, -1, 0, []) [t1, u1]) 0)) →
       (LA l → nxt L (k + (partX (A) (t1.op, toks t1)).length + 1 + (partX (B) (u1.op, toks u1)).length) < (l : Int) + 1 → ∀ y, lp l ((L, ((k + (partX (A) (t1.op, toks t1)).length + 1 + (partX (B) (u1.op, toks u1)).length : Nat) : Int), o, (0 : Int), (0 : Int)) : RS) (flat (.mk (op, -1, -1, -1, 0, []) [t1, u1]) 0) = some y → rd l ((L, ((k : Nat) : Int), o, (0 : Int), (0 : Int)) : RS) = some y) →
       (∀ p : Nat, 1 ≤ p → p ≤ 9 → (p = 1 ∨ (p : Int) ≤ (l : Int)) → nxt L (k + (partX (A) (t1.op, toks t1)).length + 1 + (partX (B) (u1.op, toks u1)).length) < (p : Int) → rd p ((L, ((k : Nat) : Int), o, (0 : Int), (0 : Int)) : RS) = some (((L, ((k + (partX (A) (t1.op, toks t1)).length + 1 + (partX (B) (u1.op, toks u1)).length : Nat) : Int), o, (0 : Int), (0 : Int)) : RS), flat (.mk (op, -1, -1, -1, 0, []) [t1, u1]) 0)) ∧
       (∀ l' : Nat, LA l' → (l' : Int) ≤ (l : Int) → nxt L (k + (partX (A) (t1.op, toks t1)).length + 1 + (partX (B) (u1.op, toks u1)).length) < (l' : Int) + 1 → ∀ y, lp l' ((L, ((k + (partX (A) (t1.op, toks t1)).length + 1 + (partX (B) (u1.op, toks u1)).length : Nat) : Int), o, (0 : Int), (0 : Int)) : RS) (flat (.mk (op, -1, -1, -1, 0, []) [t1, u1]) 0) = some y → rd l' ((L, ((k : Nat) : Int), o, (0 : Int), (0 : Int)) : RS) = some y) := fun f1 f2 => by
      obtain ⟨g1, g2⟩ := fin f1 f2
      exact ⟨fun p z1 z9 hp hn => g1 p z1 (by omega) hn, fun l' hl' hle hn y hy => g2 l' hl' (by omega) hn y hy⟩
     rcases hl2 with ⟨hLA, hq⟩ | ⟨h12, hq⟩ | ⟨h6, hq⟩
     ·
      have hleft : A = (l : Int) := by rw [← hAA]; unfold leftX; rw [hl1]; unfold LA at hLA; rw [if_neg (by omega), if_neg (by omega)]
      have hright : B = ((l + 1 : Nat) : Int) := by rw [← hBB]; unfold rightX; rw [hl1]; unfold LA at hLA; rw [if_neg (by omega)]; omega
      have l9 : l + 1 ≤ 9 := by omega
      subst hleft; subst hright
      have pa := (p1.part l1 hL (a := l) (by omega) (by omega) (o := o) h0 (by omega) hr1).2 hLA (by omega)
      have pb := (p2.part l2 hL (a := l + 1) (by omega) l9 (o := o) h0 (by omega) hr3).1
      have step : nxt L (k + (partX (l : Int) (t1.op, toks t1)).length + 1 + (partX ((l + 1 : Nat) : Int) (u1.op, toks u1)).length) < (l : Int) + 1 → ∀ y, lp l ((L, ((k + (partX (l : Int) (t1.op, toks t1)).length + 1 + (partX ((l + 1 : Nat) : Int) (u1.op, toks u1)).length : Nat) : Int), o, (0 : Int), (0 : Int)) : RS) (flat (.mk (op, -1, -1, -1, 0, []) [t1, u1]) 0) = some y → rd l ((L, ((k : Nat) : Int), o, (0 : Int), (0 : Int)) : RS) = some y := fun hn y hy => by
       refine pa y (lp_step hLA (by omega) ?_)
       rw [hq]
       simp only [pb (by omega), bind_some, hfj, hy]
      exact out (fun hn => step (by omega) _ (lp_step hLA (by omega) (by rw [opq_lt hLA hn]))) (fun _ hn y hy => step hn y hy)
     ·
      have hleft : A = ((l + 1 : Nat) : Int) := by rw [← hAA]; unfold leftX; rw [hl1, if_pos (by omega)]; omega
      have hright : B = (l : Int) := by rw [← hBB]; unfold rightX; rw [hl1, if_pos (by omega)]
      subst hleft; subst hright
      have pa := (p1.part l1 hL (a := l + 1) (by omega) (by omega) (o := o) h0 (by omega) hr1).1 (by omega)
      have pb := (p2.part l2 hL (a := l) (by omega) (by omega) (o := o) h0 (by omega) hr3).1
      refine out (fun hn => ?_) (fun hLA => by unfold LA at hLA; omega)
      refine rd12 h12 (by omega) pa ?_
      rw [hq]
      simp only [pb hn, bind_some, hfj]
     ·
      subst h6
      have hleft : A = ((7 : Nat) : Int) := by rw [← hAA]; unfold leftX; rw [hl1, if_neg (by omega), if_pos (by omega)]; omega
      have hright : B = ((7 : Nat) : Int) := by rw [← hBB]; unfold rightX; rw [hl1, if_neg (by omega)]; omega
      subst hleft; subst hright
      have pa := (p1.part l1 hL (a := 7) (by omega) (by omega) (o := o) h0 (by omega) hr1).1 (by omega)
      have pb := (p2.part l2 hL (a := 7) (by omega) (by omega) (o := o) h0 (by omega) hr3).1
      refine out (fun hn => ?_) (fun hLA => by unfold LA at hLA; omega)
      refine rd6 (by omega) pa ?_
      rw [hq]
      simp only [pb (by omega), bind_some, cond_false, hfj]
end Go.Proofs.YtlobhcgbmpcdlaaGreatDoor.R
