import Derived.Test.YtlobhcgbmpcdlaaGreatDoorLstG
open Option (bind_some)
open List (length_append length_cons length_nil)
namespace Go.Proofs.YtlobhcgbmpcdlaaGreatDoor.R
open Go Go.Bm Go.Proofs
set_option linter.unusedVariables false
set_option linter.unusedSimpArgs false
set_option maxRecDepth 4000
theorem c0a {L : List m7} {i : Nat} (hL : L.length ≤ 1000000000) {u : Unt} (hu : K5 u = true) (hr : Reads L i (wUn u)) : c20 T.rf ((L, ((i : Nat) : Int), (0 : Int), (0 : Int)) : R6) = some (((L, ((i + (wUn u).length : Nat) : Int), (0 : Int), (0 : Int)) : R6), T9 u) := a3g (by
 have H := unF hu
 obtain ⟨k, nm, inp, o, t, v, q, xs⟩ := u
 have hnm := H.nm; have hi := H.i; have hib := H.ib; have hv := H.v; have hvb := H.vb; have hq := H.q; have hqb := H.qb; have hx := H.x; have hxb := H.xb
 simp only at hnm hi hib hv hvb hq hqb hx hxb
 cases k with
 | true =>
   obtain ⟨k1, k2, k3, k4⟩ := H.k rfl
   simp only at k1 k2 k3 k4
   subst k1; subst k2; subst k3; subst k4
   simp only [wUn, if_true] at hr ⊢
   obtain ⟨⟨a1, h1⟩, h2, hr3⟩ := hr
   obtain ⟨a2, h2⟩ := W4 hnm h2
   obtain ⟨hr4, hr5⟩ := l5.1 hr3
   have hl := C0 h2
   have hl2 := G2 hr5 (by simp)
   simp only [length_append, length_cons, length_nil] at hl2
   have b1 := l0 h1 (.inr a2d)
   simp only [r20, m4 L (show i ≤ 2000000000 by omega), b1, beq_self_eq_true, cond_true, bind_some, O8 (show i + 1 ≤ 2000000000 by omega) h2, a7T hL hib hi hr4, a9V hL hxb hx hr5, T9, List.map_nil, length_cons, length_append, length_nil]
   have q : i + 1 + 1 + (wIn inp).length + (G0 xs).length + 1 = i + ((wIn inp).length + ((G0 xs).length + (0 + 1)) + 1 + 1) := by omega
   rw [q]
 | false =>
   have ho := H.o rfl
   simp only at ho
   have ewUn : wUn (false, nm, inp, o, t, v, q, xs) = ([110, 111, 100, 101] : Str) :: nm :: (wIn inp ++ (([114, 101, 116, 117, 114, 110, 115] : Str) :: (wIn [(o, t)] ++ ((if xs.length > 0 then ([99, 111, 110, 116, 114, 97, 99, 116] : Str) :: (G0 xs ++ [([101, 110, 100] : Str)]) else []) ++ (a0U v ++ (([108, 101, 116] : Str) :: (S1 q ++ [([116, 101, 108] : Str)]))))))) := by
    rw [wUn, if_neg (show ¬ (false = true) by decide)]
   have ewIn : wIn [(o, t)] = [40] :: (wPm (o, t) ++ [[41]]) := by rw [wIn, List.map_cons, List.map_nil, a2D]
   rw [ewUn, ewIn] at hr
   rw [ewUn, ewIn]
   obtain ⟨⟨a1, h1⟩, h2, hr3⟩ := hr
   obtain ⟨a2, h2⟩ := W4 hnm h2
   obtain ⟨hr4, ⟨a5, h5⟩, hr6⟩ := l5.1 hr3
   rw [List.cons_append, List.append_assoc, List.singleton_append] at hr6
   obtain ⟨⟨a6, h6⟩, hr7⟩ := hr6
   obtain ⟨hr8, ⟨a9, h9⟩, hr10⟩ := l5.1 hr7
   have e3 : (wPm (o, t)).length = 3 := rfl
   rw [e3] at h9 hr10
   obtain ⟨hr11, hr12⟩ := l5.1 hr10
   obtain ⟨hr13, ⟨a14, h14⟩, hr15⟩ := l5.1 hr12
   have hl15 := G2 hr15 (by simp)
   simp only [length_append, length_cons, length_nil] at hl15
   have b1 := l0 h1 (.inr b5m)
   have b5 : isB L (i + 1 + 1 + (wIn inp).length) ([114, 101, 116, 117, 114, 110, 115] : Str) = true := by rw [l0 h5 (.inr b3S)]; rfl
   have b6 : isB L (i + 1 + 1 + (wIn inp).length + 1) [40] = true := by rw [l0 h6 (.inl b3Q)]; rfl
   have b9 : isB L (i + 1 + 1 + (wIn inp).length + 1 + 1 + 3) [41] = true := by rw [l0 h9 (.inl b0X)]; rfl
   have bl := l0 h14 (.inr b8A)
   have bnode : isB L i ([110, 111, 100, 101] : Str) = true := by rw [b1]; rfl
   have base : r20 T.rf T.rb ((L, ((i : Nat) : Int), (0 : Int), (0 : Int)) : R6) = (c21 T.rf ((L, ((i + 1 + 1 + (wIn inp).length + 1 + 1 + 3 + 1 : Nat) : Int), (0 : Int), (0 : Int)) : R6) ([99, 111, 110, 116, 114, 97, 99, 116] : Str)).bind fun y12 => bif y12.2 then (c31 T.rf y12.1).bind fun y13 => (c21 T.rf y13.1 ([118, 97, 114] : Str)).bind fun y14 => bif y14.2 then (c64 T.rf y14.1).bind fun y15 => (c28 T.rf y15.1 ([108, 101, 116] : Str)).bind fun y16 => (c65 T.rf y16).bind fun y17 => some (y17.1, false, nm, inp, o, t, y15.2, y17.2, y13.2) else (c28 T.rf y14.1 ([108, 101, 116] : Str)).bind fun y18 => (c65 T.rf y18).bind fun y19 => some (y19.1, false, nm, inp, o, t, [], y19.2, y13.2)
     else (c21 T.rf y12.1 ([118, 97, 114] : Str)).bind fun y20 => bif y20.2 then (c64 T.rf y20.1).bind fun y21 => (c28 T.rf y21.1 ([108, 101, 116] : Str)).bind fun y22 => (c65 T.rf y22).bind fun y23 => some (y23.1, false, nm, inp, o, t, y21.2, y23.2, []) else (c28 T.rf y20.1 ([108, 101, 116] : Str)).bind fun y24 => (c65 T.rf y24).bind fun y25 => some (y25.1, false, nm, inp, o, t, [], y25.2, []) := by
    simp only [r20, m4 L (show i ≤ 2000000000 by omega), b1, show (([110, 111, 100, 101] : Str) == ([99, 111, 110, 116, 114, 97, 99, 116] : Str)) = false from rfl, cond_false, bind_some, o8 (show i ≤ 2000000000 by omega) bnode, O8 (show i + 1 ≤ 2000000000 by omega) h2, a7T hL hib hi hr4, o8 (show i + 1 + 1 + (wIn inp).length ≤ 2000000000 by omega) b5, o8 (show i + 1 + 1 + (wIn inp).length + 1 ≤ 2000000000 by omega) b6, X5 hL ho hr8, o8 (show i + 1 + 1 + (wIn inp).length + 1 + 1 + 3 ≤ 2000000000 by omega) b9]
   rw [base]
   generalize hj0 : i + 1 + 1 + (wIn inp).length + 1 + 1 + 3 + 1 = j at *
   by_cases hxl : xs.length > 0
   · simp only [if_pos hxl] at *
     obtain ⟨⟨a16, h16⟩, hr17⟩ := hr11
     have b16 : isB L j ([99, 111, 110, 116, 114, 97, 99, 116] : Str) = true := by rw [l0 h16 (.inr a2d)]; rfl
     simp only [length_append, length_cons, length_nil] at hr13 h14 hr15 hl15 bl ⊢
     have qj : j + ((G0 xs).length + (0 + 1) + 1) = j + 1 + (G0 xs).length + 1 := by omega
     simp only [qj] at hr13 h14 hr15 hl15 bl
     simp only [m4 L (show j ≤ 2000000000 by omega), b16, cond_true, bind_some, a9V hL hxb hx hr17]
     by_cases hvl : v.length > 0
     · simp only [a0U, if_pos hvl] at *
       obtain ⟨⟨a18, h18⟩, hr19⟩ := hr13
       simp only [length_append, length_cons, length_nil] at h14 hr15 hl15 bl ⊢
       have b18 : isB L (j + 1 + (G0 xs).length + 1) ([118, 97, 114] : Str) = true := by rw [l0 h18 (.inr b3T)]; rfl
       have qk : j + 1 + (G0 xs).length + 1 + ((C7 [59] (v.map wPm)).length + (0 + 1) + 1) = j + 1 + (G0 xs).length + 1 + 1 + (C7 [59] (v.map wPm)).length + 1 := by omega
       simp only [qk] at h14 hr15 hl15 bl
       have hrv : Reads L (j + 1 + (G0 xs).length + 1 + 1) ((C7 [59] (v.map wPm) ++ [[59]]) ++ [([108, 101, 116] : Str)]) := l5.2 ⟨hr19, ⟨a14, by
        simp only [length_append, length_cons, length_nil]
        rw [show j + 1 + (G0 xs).length + 1 + 1 + ((C7 [59] (v.map wPm)).length + (0 + 1)) = j + 1 + (G0 xs).length + 1 + 1 + (C7 [59] (v.map wPm)).length + 1 by omega]
        exact h14⟩, trivial⟩
       have hne : v ≠ [] := by intro h; subst h; simp at hvl
       simp only [m4 L (show j + 1 + (G0 xs).length + 1 ≤ 2000000000 by omega), b18, cond_true, bind_some, b3u hL hne hvb hv hrv, o8 (show j + 1 + (G0 xs).length + 1 + 1 + (C7 [59] (v.map wPm)).length + 1 ≤ 2000000000 by omega) (s := ([108, 101, 116] : Str)) (by rw [bl]; rfl), a6O hL hqb hq hr15, T9]
       congr 3
       congr 1
       omega
     · have hv0 : v = [] := List.length_eq_zero_iff.1 (by omega)
       simp only [a0U, if_neg hvl, length_nil, Nat.add_zero, List.nil_append] at h14 hr15 hl15 bl ⊢
       subst hv0
       have b18 : isB L (j + 1 + (G0 xs).length + 1) ([118, 97, 114] : Str) = false := by rw [bl]; rfl
       simp only [m4 L (show j + 1 + (G0 xs).length + 1 ≤ 2000000000 by omega), b18, cond_false, bind_some, o8 (show j + 1 + (G0 xs).length + 1 ≤ 2000000000 by omega) (s := ([108, 101, 116] : Str)) (by rw [bl]; rfl), a6O hL hqb hq hr15, T9]
       congr 3
       congr 1
       omega
   · have hx0 : xs = [] := List.length_eq_zero_iff.1 (by omega)
     simp only [if_neg hxl, length_nil, Nat.add_zero, List.nil_append] at hr13 h14 hr15 hl15 bl ⊢
     subst hx0
     by_cases hvl : v.length > 0
     · simp only [a0U, if_pos hvl] at *
       obtain ⟨⟨a18, h18⟩, hr19⟩ := hr13
       simp only [length_append, length_cons, length_nil] at h14 hr15 hl15 bl ⊢
       have b16 : isB L j ([99, 111, 110, 116, 114, 97, 99, 116] : Str) = false := by rw [l0 h18 (.inr b3T)]; rfl
       have b18 : isB L j ([118, 97, 114] : Str) = true := by rw [l0 h18 (.inr b3T)]; rfl
       have qk : j + ((C7 [59] (v.map wPm)).length + (0 + 1) + 1) = j + 1 + (C7 [59] (v.map wPm)).length + 1 := by omega
       simp only [qk] at h14 hr15 hl15 bl
       have hrv : Reads L (j + 1) ((C7 [59] (v.map wPm) ++ [[59]]) ++ [([108, 101, 116] : Str)]) := l5.2 ⟨hr19, ⟨a14, by
        simp only [length_append, length_cons, length_nil]
        rw [show j + 1 + ((C7 [59] (v.map wPm)).length + (0 + 1)) = j + 1 + (C7 [59] (v.map wPm)).length + 1 by omega]
        exact h14⟩, trivial⟩
       have hne : v ≠ [] := by intro h; subst h; simp at hvl
       simp only [m4 L (show j ≤ 2000000000 by omega), b16, b18, cond_true, cond_false, bind_some, b3u hL hne hvb hv hrv, o8 (show j + 1 + (C7 [59] (v.map wPm)).length + 1 ≤ 2000000000 by omega) (s := ([108, 101, 116] : Str)) (by rw [bl]; rfl), a6O hL hqb hq hr15, T9, List.map_nil]
       congr 3
       congr 1
       omega
     · have hv0 : v = [] := List.length_eq_zero_iff.1 (by omega)
       simp only [a0U, if_neg hvl, length_nil, Nat.add_zero, List.nil_append] at h14 hr15 hl15 bl ⊢
       subst hv0
       have b16 : isB L j ([99, 111, 110, 116, 114, 97, 99, 116] : Str) = false := by rw [bl]; rfl
       have b18 : isB L j ([118, 97, 114] : Str) = false := by rw [bl]; rfl
       simp only [m4 L (show j ≤ 2000000000 by omega), b16, b18, cond_false, bind_some, o8 (show j ≤ 2000000000 by omega) (s := ([108, 101, 116] : Str)) (by rw [bl]; rfl), a6O hL hqb hq hr15, T9, List.map_nil]
       simp only [length_append, length_cons, length_nil, e3]
       congr 3
       congr 1
       omega)
theorem c0g (u : Unt) : ∃ r, wUn u = (if u.1 = true then ([99, 111, 110, 116, 114, 97, 99, 116] : Str) else ([110, 111, 100, 101] : Str)) :: r := by
 unfold wUn
 split
 · exact ⟨_, rfl⟩
 · exact ⟨_, rfl⟩
theorem a6E {L : List m7} (hL : L.length ≤ 1000000000) (d2 d3 : Str) : ∀ (l : List Unt) (k : Nat) (out : List Unt), (∀ x ∈ l, K5 x = true) → Reads L k (H2 l ++ [([109, 97, 105, 110] : Str)]) → out.length + l.length ≤ 200 →
  k69 T.rb ((L, ((k : Nat) : Int), (0 : Int), (0 : Int)) : R6) d2 d3 out = some (((L, ((k + (H2 l).length : Nat) : Int), (0 : Int), (0 : Int)) : R6), d2, d3, out ++ l.map T9)
 | [], k, out, hp, hr, ho => b9c (by
   obtain ⟨⟨a, h⟩, _⟩ := hr
   have bb := l0 h (.inr b5k)
   simp only [b69, a2c, bind_some, bb, show (([109, 97, 105, 110] : Str) == ([110, 111, 100, 101] : Str)) = false from rfl, show (([109, 97, 105, 110] : Str) == ([99, 111, 110, 116, 114, 97, 99, 116] : Str)) = false from rfl, cond_false]
   simp [H2])
 | x :: l, k, out, hp, hr, ho => b9c (by
   have e : H2 (x :: l) = wUn x ++ H2 l := rfl
   rw [e, List.append_assoc] at hr
   obtain ⟨r1, r2⟩ := l5.1 hr
   simp only [length_cons] at ho
   have ih := a6E hL d2 d3 l (k + (wUn x).length) (out ++ [T9 x]) (fun p h => hp p (List.mem_cons_of_mem _ h)) r2 (by simp only [length_append, length_cons, length_nil]; omega)
   have hun := c0a hL (hp x (by simp)) r1
   obtain ⟨r, hh⟩ := c0g x
   rw [hh] at r1
   obtain ⟨⟨a, h1⟩, _⟩ := r1
   have fin : out ++ [T9 x] ++ l.map T9 = out ++ (x :: l).map T9 := by simp
   have q : k + (wUn x).length + (H2 l).length = k + (wUn x ++ H2 l).length := by rw [length_append]; omega
   cases hk : x.1 with
   | true =>
     rw [hk, if_pos rfl] at h1
     have bb := l0 h1 (.inr a2d)
     simp only [b69, a2c, bind_some, bb, show (([99, 111, 110, 116, 114, 97, 99, 116] : Str) == ([110, 111, 100, 101] : Str)) = false from rfl, beq_self_eq_true, cond_false, cond_true, K1 _ (show out.length < 200 by omega), hun, m8 (show out.length + 1 ≤ 274877906944 by omega), Bool.and_true, ih, fin, e, q]
   | false =>
     rw [hk, if_neg (show ¬ (false = true) by decide)] at h1
     have bb := l0 h1 (.inr b5m)
     simp only [b69, a2c, bind_some, bb, beq_self_eq_true, cond_true, K1 _ (show out.length < 200 by omega), hun, m8 (show out.length + 1 ≤ 274877906944 by omega), Bool.and_true, ih, fin, e, q])
theorem a8X {p : Pm} (h : H9 p = true) : O1 (wPm p) := by
 rw [H9, Bool.and_eq_true] at h
 refine .cons (.name h.1) (.cons (.sign (by decide)) (.cons ?_ .nil))
 unfold tyX; split
 · exact .word (by decide +kernel)
 · exact .word (by decide +kernel)
theorem a4Y {α : Type} {f : α → List Str} {s : Str} (hs : Tok s) : ∀ l : List α, (∀ x ∈ l, O1 (f x)) → O1 (a2E s (l.map f)) ∧ O1 (C7 s (l.map f))
 | [], _ => ⟨.nil, .nil⟩
 | x :: r, h => by
   have ih := a4Y hs r fun y hy => h y (List.mem_cons_of_mem _ hy)
   exact ⟨.cons hs ((h x (by simp)).app ih.1), (h x (by simp)).app ih.1⟩
theorem a4X {α : Type} {f : α → List Str} : ∀ l : List α, (∀ x ∈ l, O1 (f x)) → O1 ((l.map f).flatten)
 | [], _ => .nil
 | x :: r, h => (h x (by simp)).app (a4X r fun y hy => h y (List.mem_cons_of_mem _ hy))
theorem a2B : Tok [59] := .sign (by decide)
theorem c4m : Tok [61] := .sign (by decide)
theorem b9W {x : Itm} (h : I7 x = true) : O1 (wIt x) := by
 cases itF h with
 | ag k nm ty e f a =>
   unfold wIt
   rcases k with k | k
   · rw [if_pos k]; exact .cons (.word (by decide +kernel)) ((ef e).t.app (.cons a2B .nil))
   · rw [if_neg (by omega), if_pos k]; exact .cons (.word (by decide +kernel)) ((ef e).t.app (.cons a2B .nil))
 | gh k nm ty e f a =>
   have hp : H9 (x.2.1, x.2.2.1) = true := by unfold H9; rw [nm]; rcases ty with ty | ty <;> simp [ty]
   unfold wIt
   rw [if_neg (by omega), if_neg (by omega), if_pos k]
   exact .cons (.word (by decide +kernel)) ((a8X hp).app (.cons c4m ((ef e).t.app (.cons a2B .nil))))
 | md k nm ty e f a =>
   unfold wIt
   rw [if_neg (by omega), if_neg (by omega), if_neg (by omega), if_pos k]
   exact .cons (.word (by decide +kernel)) (.cons (.name nm) (.cons (.word (by decide +kernel)) ((ef e).t.app (.cons (.word (by decide +kernel)) ((ef f).t.app (.cons a2B .nil))))))
 | im k nm ty e f l a =>
   unfold wIt
   rw [if_neg (by omega), if_neg (by omega), if_neg (by omega), if_neg (by omega)]
   exact .cons (.word (by decide +kernel)) (.cons (.name nm) (.cons (.sign (by decide)) (((a4Y (.sign (by decide)) _ fun y hy => (ef (a y hy)).t).2).app (.cons (.sign (by decide)) (.cons a2B .nil)))))
theorem a8W {l : List Pm} (h : ∀ p ∈ l, H9 p = true) : O1 (wIn l) := .cons (.sign (by decide)) (((a4Y a2B _ fun y hy => a8X (h y hy)).2).app (.cons (.sign (by decide)) .nil))
theorem b9Y {u : Unt} (h : K5 u = true) : O1 (wUn u) := by
 have H := unF h
 have hx : O1 (G0 u.2.2.2.2.2.2.2) := a4X _ fun x hx => b9W (H.xb x hx)
 have hq : O1 (S1 u.2.2.2.2.2.2.1) := a4X _ fun q hq => .cons (.name (eqF (H.qb q hq)).1) (.cons c4m ((ef (eqF (H.qb q hq)).2).t.app (.cons a2B .nil)))
 have hv : O1 (a0U u.2.2.2.2.2.1) := by
  unfold a0U; split
  · exact .cons (.word (by decide +kernel)) (((a4Y a2B _ fun y hy => a8X (H.vb y hy)).2).app (.cons a2B .nil))
  · exact .nil
 unfold wUn
 split
 · exact .cons (.word (by decide +kernel)) (.cons (.name H.nm) ((a8W H.ib).app (hx.app (.cons (.word (by decide +kernel)) .nil))))
 · rename_i hk
   refine .cons (.word (by decide +kernel)) (.cons (.name H.nm) ((a8W H.ib).app (.cons (.word (by decide +kernel)) ((a8W (by intro p hp; rw [List.mem_singleton] at hp; subst hp; exact H.o (by simpa using hk))).app (O1.app ?_ (hv.app (.cons (.word (by decide +kernel)) (hq.app (.cons (.word (by decide +kernel)) .nil)))))))))
   split
   · exact .cons (.word (by decide +kernel)) (hx.app (.cons (.word (by decide +kernel)) .nil))
   · exact .nil
theorem b9X {p : Prg} (h : a1o p = true) : O1 (wPg p) := by
 have H := pgF h
 refine O1.app (a4X _ fun u hu => b9Y (H.u u hu)) ?_
 unfold b3v
 refine .cons (.word (by decide +kernel)) (.cons (.name H.mn) (.cons a2B ?_))
 split
 · exact .nil
 · rename_i hb
   exact .cons (.word (by decide +kernel)) (.cons (.name (H.bk.resolve_left hb)) (.cons a2B .nil))
theorem a5R {L : List m7} {k : Nat} (hk : k = L.length) (mn bk : Str) (us : List Unt) : ∃ z, k70 T.rb ([] : Str) ([] : Str) (0, 0) ((L, ((k : Nat) : Int), (0 : Int), (0 : Int)) : R6) mn bk [] us = some (.inr (mn, bk, (0, 0), z, mn, bk, [], us)) :=
 ⟨((L, ((k : Nat) : Int), (0 : Int), (0 : Int)) : R6), c5H (by
   simp only [b70, ok6, bind_some, z6, cond_true, df (show ¬ ((k : Nat) : Int) < ((L.length : Nat) : Int) by omega), cond_false, Bool.not_true])⟩
theorem b5Q {p : Prg} (hp : a1o p = true) (hl : (txt (wPg p)).length ≤ 100000) : c3 T.rf (txt (wPg p)) = some (b4k p, 0, 0) := or3 (by
 obtain ⟨L, h1, h2, h3⟩ := c0k (b9X hp) hl
 have H := pgF hp
 obtain ⟨us, mn, bk⟩ := p
 have hmn := H.mn; have hbk := H.bk; have hn := H.n; have hu := H.u
 simp only at hmn hbk hn hu
 have hLen : L.length ≤ 1000000000 := by
  rw [h3]
  have : ∀ l : List Str, l.length ≤ (J l).length := fun l => by
   induction l with
   | nil => simp
   | cons x l ih => rw [J_c, length_cons]; omega
  have h4 := this (wPg (us, mn, bk))
  have h5 : (J (wPg (us, mn, bk))).length ≤ (txt (wPg (us, mn, bk))).length + 1 := by unfold txt; rw [List.length_drop]; omega
  omega
 rw [wPg] at h2
 obtain ⟨g1, g2⟩ := l5.1 h2
 simp only [Nat.zero_add] at g2
 unfold b3v at g2
 obtain ⟨⟨a1, e1⟩, e2, ⟨a3, e3⟩, g3⟩ := g2
 obtain ⟨a2, e2⟩ := W4 hmn e2
 have hlt := C0 e3
 have hloop := a6E hLen ([] : Str) ([] : Str) us 0 [] hu (l5.2 ⟨g1, ⟨a1, by rw [Nat.zero_add]; exact e1⟩, trivial⟩) (by simpa using hn)
 rw [show ((0 : Nat) : Int) = (0 : Int) from rfl] at hloop
 simp only [Nat.zero_add, List.nil_append] at hloop
 have b1 : isB L (H2 us).length ([109, 97, 105, 110] : Str) = true := by rw [l0 e1 (.inr b5k)]; rfl
 have b3 : isB L ((H2 us).length + 1 + 1) [59] = true := by rw [l0 e3 (.inl V0)]; rfl
 have hlen : L.length = (H2 us).length + (3 + (if bk = [] then 0 else 3)) := by
  rw [h3, wPg, length_append]
  unfold b3v
  split <;> rfl
 simp only [r3, h1, bind_some, z0, cond_false, hloop, o8 (show (H2 us).length ≤ 2000000000 by omega) b1, O8 (show (H2 us).length + 1 ≤ 2000000000 by omega) e2, o8 (show (H2 us).length + 1 + 1 ≤ 2000000000 by omega) b3, m4 L (show (H2 us).length + 1 + 1 + 1 ≤ 2000000000 by omega)]
 by_cases hb : bk = []
 · subst hb
   rw [if_pos rfl] at hlen
   have b4 : isB L ((H2 us).length + 1 + 1 + 1) ([102, 97, 108, 108, 98, 97, 99, 107] : Str) = false := by
    unfold isB
    rw [show nth L ((H2 us).length + 1 + 1 + 1) = none by rw [nth_getElem?]; exact List.getElem?_eq_none (by omega)]
   obtain ⟨z, hz⟩ := a5R (L := L) (k := (H2 us).length + 1 + 1 + 1) (by omega) mn [] (us.map T9)
   rw [b4, cond_false]
   simp only [cond_false]
   rw [hz]
   rfl
 · rw [if_neg hb] at hlen g3
   obtain ⟨⟨a4, e4⟩, e5, ⟨a6, e6⟩, _⟩ := g3
   obtain ⟨a5, e5⟩ := W4 (hbk.resolve_left hb) e5
   have b4 : isB L ((H2 us).length + 1 + 1 + 1) ([102, 97, 108, 108, 98, 97, 99, 107] : Str) = true := by rw [l0 e4 (.inr b2w)]; rfl
   have b6 : isB L ((H2 us).length + 1 + 1 + 1 + 1 + 1) [59] = true := by rw [l0 e6 (.inl V0)]; rfl
   obtain ⟨z, hz⟩ := a5R (L := L) (k := (H2 us).length + 1 + 1 + 1 + 1 + 1 + 1) (by omega) mn bk (us.map T9)
   rw [b4, cond_true]
   simp only [cond_true, O8 (show (H2 us).length + 1 + 1 + 1 + 1 ≤ 2000000000 by omega) e5, bind_some, o8 (show (H2 us).length + 1 + 1 + 1 + 1 + 1 ≤ 2000000000 by omega) b6]
   rw [hz]
   rfl)
end Go.Proofs.YtlobhcgbmpcdlaaGreatDoor.R
