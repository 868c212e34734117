import Derived.Test.YtlobhcgbmpcdlaaGreatDoorLstG
open Option (bind_some)
open List (length_append length_cons length_nil)
namespace Go.Proofs.YtlobhcgbmpcdlaaGreatDoor.R
open Go Go.Bm Go.Proofs
set_option linter.unusedVariables false
set_option linter.unusedSimpArgs false
set_option maxRecDepth 4000
theorem unit6_eq {L : List Tok3} {i : Nat} (hL : L.length ≤ 1000000000) {u : Unt} (hu : untB u = true) (hr : Reads L i (wUn u)) : c20 T.rf ((L, ((i : Nat) : Int), (0 : Int), (0 : Int)) : R6) = some (((L, ((i + (wUn u).length : Nat) : Int), (0 : Int), (0 : Int)) : R6), ordU u) := or20 (by
 have H := unF hu
 obtain ⟨k, nm, inp, o, t, v, q, xs⟩ := u
 have hnm := H.nm; have hi := H.i; have hib := H.ib; have hv := H.v; have hvb := H.vb; have hq := H.q; have hqb := H.qb; have hx := H.x; have hxb := H.xb
 simp only at hnm hi hib hv hvb hq hqb hx hxb
 cases k with
 | true =>
   obtain ⟨k1, k2, k3, k4⟩ := H.k rfl
   simp only at k1 k2 k3 k4
   subst k1; subst k2; subst k3; subst k4
   simp only [wUn, if_true] at hr ⊢
   obtain ⟨⟨a1, h1⟩, h2, hr3⟩ := hr
   obtain ⟨a2, h2⟩ := is_name hnm h2
   obtain ⟨hr4, hr5⟩ := Reads_app.1 hr3
   have hl := nth_lt h2
   have hl2 := Reads_len hr5 (by simp)
   simp only [length_append, length_cons, length_nil] at hl2
   have b1 := isB_tok h1 (.inr kd_contract)
   simp only [r20, take6_eq L (show i ≤ 2000000000 by omega), b1, beq_self_eq_true, cond_true, bind_some, name6_eq (show i + 1 ≤ 2000000000 by omega) h2, inputs6_eq hL hib hi hr4, items6_eq hL hxb hx hr5, ordU, List.map_nil, length_cons, length_append, length_nil]
   have q : i + 1 + 1 + (wIn inp).length + (wIts xs).length + 1 = i + ((wIn inp).length + ((wIts xs).length + (0 + 1)) + 1 + 1) := by omega
   rw [q]
 | false =>
   have ho := H.o rfl
   simp only at ho
   have ewUn : wUn (false, nm, inp, o, t, v, q, xs) = ([110, 111, 100, 101] : Str) :: nm :: (wIn inp ++ (([114, 101, 116, 117, 114, 110, 115] : Str) :: (wIn [(o, t)] ++ ((if xs.length > 0 then ([99, 111, 110, 116, 114, 97, 99, 116] : Str) :: (wIts xs ++ [([101, 110, 100] : Str)]) else []) ++ (wVars v ++ (([108, 101, 116] : Str) :: (wEqs q ++ [([116, 101, 108] : Str)]))))))) := by
    rw [wUn, if_neg (show ¬ (false = true) by decide)]
   have ewIn : wIn [(o, t)] = [40] :: (wPm (o, t) ++ [[41]]) := by rw [wIn, List.map_cons, List.map_nil, wsep_one]
   rw [ewUn, ewIn] at hr
   rw [ewUn, ewIn]
   obtain ⟨⟨a1, h1⟩, h2, hr3⟩ := hr
   obtain ⟨a2, h2⟩ := is_name hnm h2
   obtain ⟨hr4, ⟨a5, h5⟩, hr6⟩ := Reads_app.1 hr3
   rw [List.cons_append, List.append_assoc, List.singleton_append] at hr6
   obtain ⟨⟨a6, h6⟩, hr7⟩ := hr6
   obtain ⟨hr8, ⟨a9, h9⟩, hr10⟩ := Reads_app.1 hr7
   have e3 : (wPm (o, t)).length = 3 := rfl
   rw [e3] at h9 hr10
   obtain ⟨hr11, hr12⟩ := Reads_app.1 hr10
   obtain ⟨hr13, ⟨a14, h14⟩, hr15⟩ := Reads_app.1 hr12
   have hl15 := Reads_len hr15 (by simp)
   simp only [length_append, length_cons, length_nil] at hl15
   have b1 := isB_tok h1 (.inr kd_node)
   have b5 : isB L (i + 1 + 1 + (wIn inp).length) ([114, 101, 116, 117, 114, 110, 115] : Str) = true := by rw [isB_tok h5 (.inr kd_returns)]; rfl
   have b6 : isB L (i + 1 + 1 + (wIn inp).length + 1) [40] = true := by rw [isB_tok h6 (.inl kd40)]; rfl
   have b9 : isB L (i + 1 + 1 + (wIn inp).length + 1 + 1 + 3) [41] = true := by rw [isB_tok h9 (.inl kd41)]; rfl
   have bl := isB_tok h14 (.inr kd_let)
   have bnode : isB L i ([110, 111, 100, 101] : Str) = true := by rw [b1]; rfl
   have base : r20 T.rf T.rb ((L, ((i : Nat) : Int), (0 : Int), (0 : Int)) : R6) = (c21 T.rf ((L, ((i + 1 + 1 + (wIn inp).length + 1 + 1 + 3 + 1 : Nat) : Int), (0 : Int), (0 : Int)) : R6) ([99, 111, 110, 116, 114, 97, 99, 116] : Str)).bind fun y12 => bif y12.2 then (c31 T.rf y12.1).bind fun y13 => (c21 T.rf y13.1 ([118, 97, 114] : Str)).bind fun y14 => bif y14.2 then (c64 T.rf y14.1).bind fun y15 => (c28 T.rf y15.1 ([108, 101, 116] : Str)).bind fun y16 => (c65 T.rf y16).bind fun y17 => some (y17.1, false, nm, inp, o, t, y15.2, y17.2, y13.2) else (c28 T.rf y14.1 ([108, 101, 116] : Str)).bind fun y18 => (c65 T.rf y18).bind fun y19 => some (y19.1, false, nm, inp, o, t, [], y19.2, y13.2)
     else (c21 T.rf y12.1 ([118, 97, 114] : Str)).bind fun y20 => bif y20.2 then (c64 T.rf y20.1).bind fun y21 => (c28 T.rf y21.1 ([108, 101, 116] : Str)).bind fun y22 => (c65 T.rf y22).bind fun y23 => some (y23.1, false, nm, inp, o, t, y21.2, y23.2, []) else (c28 T.rf y20.1 ([108, 101, 116] : Str)).bind fun y24 => (c65 T.rf y24).bind fun y25 => some (y25.1, false, nm, inp, o, t, [], y25.2, []) := by
    simp only [r20, take6_eq L (show i ≤ 2000000000 by omega), b1, show (([110, 111, 100, 101] : Str) == ([99, 111, 110, 116, 114, 97, 99, 116] : Str)) = false from rfl, cond_false, bind_some, need6_eq (show i ≤ 2000000000 by omega) bnode, name6_eq (show i + 1 ≤ 2000000000 by omega) h2, inputs6_eq hL hib hi hr4, need6_eq (show i + 1 + 1 + (wIn inp).length ≤ 2000000000 by omega) b5, need6_eq (show i + 1 + 1 + (wIn inp).length + 1 ≤ 2000000000 by omega) b6, param6_eq hL ho hr8, need6_eq (show i + 1 + 1 + (wIn inp).length + 1 + 1 + 3 ≤ 2000000000 by omega) b9]
   rw [base]
   generalize hj0 : i + 1 + 1 + (wIn inp).length + 1 + 1 + 3 + 1 = j at *
   by_cases hxl : xs.length > 0
   · simp only [if_pos hxl] at *
     obtain ⟨⟨a16, h16⟩, hr17⟩ := hr11
     have b16 : isB L j ([99, 111, 110, 116, 114, 97, 99, 116] : Str) = true := by rw [isB_tok h16 (.inr kd_contract)]; rfl
     simp only [length_append, length_cons, length_nil] at hr13 h14 hr15 hl15 bl ⊢
     have qj : j + ((wIts xs).length + (0 + 1) + 1) = j + 1 + (wIts xs).length + 1 := by omega
     simp only [qj] at hr13 h14 hr15 hl15 bl
     simp only [take6_eq L (show j ≤ 2000000000 by omega), b16, cond_true, bind_some, items6_eq hL hxb hx hr17]
     by_cases hvl : v.length > 0
     · simp only [wVars, if_pos hvl] at *
       obtain ⟨⟨a18, h18⟩, hr19⟩ := hr13
       simp only [length_append, length_cons, length_nil] at h14 hr15 hl15 bl ⊢
       have b18 : isB L (j + 1 + (wIts xs).length + 1) ([118, 97, 114] : Str) = true := by rw [isB_tok h18 (.inr kd_var)]; rfl
       have qk : j + 1 + (wIts xs).length + 1 + ((wsep [59] (v.map wPm)).length + (0 + 1) + 1) = j + 1 + (wIts xs).length + 1 + 1 + (wsep [59] (v.map wPm)).length + 1 := by omega
       simp only [qk] at h14 hr15 hl15 bl
       have hrv : Reads L (j + 1 + (wIts xs).length + 1 + 1) ((wsep [59] (v.map wPm) ++ [[59]]) ++ [([108, 101, 116] : Str)]) := Reads_app.2 ⟨hr19, ⟨a14, by
        simp only [length_append, length_cons, length_nil]
        rw [show j + 1 + (wIts xs).length + 1 + 1 + ((wsep [59] (v.map wPm)).length + (0 + 1)) = j + 1 + (wIts xs).length + 1 + 1 + (wsep [59] (v.map wPm)).length + 1 by omega]
        exact h14⟩, trivial⟩
       have hne : v ≠ [] := by intro h; subst h; simp at hvl
       simp only [take6_eq L (show j + 1 + (wIts xs).length + 1 ≤ 2000000000 by omega), b18, cond_true, bind_some, vars6_eq hL hne hvb hv hrv, need6_eq (show j + 1 + (wIts xs).length + 1 + 1 + (wsep [59] (v.map wPm)).length + 1 ≤ 2000000000 by omega) (s := ([108, 101, 116] : Str)) (by rw [bl]; rfl), eqs6_eq hL hqb hq hr15, ordU]
       congr 3
       congr 1
       omega
     · have hv0 : v = [] := List.length_eq_zero_iff.1 (by omega)
       simp only [wVars, if_neg hvl, length_nil, Nat.add_zero, List.nil_append] at h14 hr15 hl15 bl ⊢
       subst hv0
       have b18 : isB L (j + 1 + (wIts xs).length + 1) ([118, 97, 114] : Str) = false := by rw [bl]; rfl
       simp only [take6_eq L (show j + 1 + (wIts xs).length + 1 ≤ 2000000000 by omega), b18, cond_false, bind_some, need6_eq (show j + 1 + (wIts xs).length + 1 ≤ 2000000000 by omega) (s := ([108, 101, 116] : Str)) (by rw [bl]; rfl), eqs6_eq hL hqb hq hr15, ordU]
       congr 3
       congr 1
       omega
   · have hx0 : xs = [] := List.length_eq_zero_iff.1 (by omega)
     simp only [if_neg hxl, length_nil, Nat.add_zero, List.nil_append] at hr13 h14 hr15 hl15 bl ⊢
     subst hx0
     by_cases hvl : v.length > 0
     · simp only [wVars, if_pos hvl] at *
       obtain ⟨⟨a18, h18⟩, hr19⟩ := hr13
       simp only [length_append, length_cons, length_nil] at h14 hr15 hl15 bl ⊢
       have b16 : isB L j ([99, 111, 110, 116, 114, 97, 99, 116] : Str) = false := by rw [isB_tok h18 (.inr kd_var)]; rfl
       have b18 : isB L j ([118, 97, 114] : Str) = true := by rw [isB_tok h18 (.inr kd_var)]; rfl
       have qk : j + ((wsep [59] (v.map wPm)).length + (0 + 1) + 1) = j + 1 + (wsep [59] (v.map wPm)).length + 1 := by omega
       simp only [qk] at h14 hr15 hl15 bl
       have hrv : Reads L (j + 1) ((wsep [59] (v.map wPm) ++ [[59]]) ++ [([108, 101, 116] : Str)]) := Reads_app.2 ⟨hr19, ⟨a14, by
        simp only [length_append, length_cons, length_nil]
        rw [show j + 1 + ((wsep [59] (v.map wPm)).length + (0 + 1)) = j + 1 + (wsep [59] (v.map wPm)).length + 1 by omega]
        exact h14⟩, trivial⟩
       have hne : v ≠ [] := by intro h; subst h; simp at hvl
       simp only [take6_eq L (show j ≤ 2000000000 by omega), b16, b18, cond_true, cond_false, bind_some, vars6_eq hL hne hvb hv hrv, need6_eq (show j + 1 + (wsep [59] (v.map wPm)).length + 1 ≤ 2000000000 by omega) (s := ([108, 101, 116] : Str)) (by rw [bl]; rfl), eqs6_eq hL hqb hq hr15, ordU, List.map_nil]
       congr 3
       congr 1
       omega
     · have hv0 : v = [] := List.length_eq_zero_iff.1 (by omega)
       simp only [wVars, if_neg hvl, length_nil, Nat.add_zero, List.nil_append] at h14 hr15 hl15 bl ⊢
       subst hv0
       have b16 : isB L j ([99, 111, 110, 116, 114, 97, 99, 116] : Str) = false := by rw [bl]; rfl
       have b18 : isB L j ([118, 97, 114] : Str) = false := by rw [bl]; rfl
       simp only [take6_eq L (show j ≤ 2000000000 by omega), b16, b18, cond_false, bind_some, need6_eq (show j ≤ 2000000000 by omega) (s := ([108, 101, 116] : Str)) (by rw [bl]; rfl), eqs6_eq hL hqb hq hr15, ordU, List.map_nil]
       simp only [length_append, length_cons, length_nil, e3]
       congr 3
       congr 1
       omega)
theorem wUn_head (u : Unt) : ∃ r, wUn u = (if u.1 = true then ([99, 111, 110, 116, 114, 97, 99, 116] : Str) else ([110, 111, 100, 101] : Str)) :: r := by
 unfold wUn
 split
 · exact ⟨_, rfl⟩
 · exact ⟨_, rfl⟩
theorem units6_loop {L : List Tok3} (hL : L.length ≤ 1000000000) (d2 d3 : Str) : ∀ (l : List Unt) (k : Nat) (out : List Unt), (∀ x ∈ l, untB x = true) → Reads L k (wUns l ++ [([109, 97, 105, 110] : Str)]) → out.length + l.length ≤ 200 →
  k69 T.rb ((L, ((k : Nat) : Int), (0 : Int), (0 : Int)) : R6) d2 d3 out = some (((L, ((k + (wUns l).length : Nat) : Int), (0 : Int), (0 : Int)) : R6), d2, d3, out ++ l.map ordU)
 | [], k, out, hp, hr, ho => ob69 (by
   obtain ⟨⟨a, h⟩, _⟩ := hr
   have bb := isB_tok h (.inr kd_main)
   simp only [b69, is6_eq, bind_some, bb, show (([109, 97, 105, 110] : Str) == ([110, 111, 100, 101] : Str)) = false from rfl, show (([109, 97, 105, 110] : Str) == ([99, 111, 110, 116, 114, 97, 99, 116] : Str)) = false from rfl, cond_false]
   simp [wUns])
 | x :: l, k, out, hp, hr, ho => ob69 (by
   have e : wUns (x :: l) = wUn x ++ wUns l := rfl
   rw [e, List.append_assoc] at hr
   obtain ⟨r1, r2⟩ := Reads_app.1 hr
   simp only [length_cons] at ho
   have ih := units6_loop hL d2 d3 l (k + (wUn x).length) (out ++ [ordU x]) (fun p h => hp p (List.mem_cons_of_mem _ h)) r2 (by simp only [length_append, length_cons, length_nil]; omega)
   have hun := unit6_eq hL (hp x (by simp)) r1
   obtain ⟨r, hh⟩ := wUn_head x
   rw [hh] at r1
   obtain ⟨⟨a, h1⟩, _⟩ := r1
   have fin : out ++ [ordU x] ++ l.map ordU = out ++ (x :: l).map ordU := by simp
   have q : k + (wUn x).length + (wUns l).length = k + (wUn x ++ wUns l).length := by rw [length_append]; omega
   cases hk : x.1 with
   | true =>
     rw [hk, if_pos rfl] at h1
     have bb := isB_tok h1 (.inr kd_contract)
     simp only [b69, is6_eq, bind_some, bb, show (([99, 111, 110, 116, 114, 97, 99, 116] : Str) == ([110, 111, 100, 101] : Str)) = false from rfl, beq_self_eq_true, cond_false, cond_true, room6_eq _ (show out.length < 200 by omega), hun, ble_most (show out.length + 1 ≤ 274877906944 by omega), Bool.and_true, ih, fin, e, q]
   | false =>
     rw [hk, if_neg (show ¬ (false = true) by decide)] at h1
     have bb := isB_tok h1 (.inr kd_node)
     simp only [b69, is6_eq, bind_some, bb, beq_self_eq_true, cond_true, room6_eq _ (show out.length < 200 by omega), hun, ble_most (show out.length + 1 ≤ 274877906944 by omega), Bool.and_true, ih, fin, e, q])
theorem toks_wPm {p : Pm} (h : prmB p = true) : Toks (wPm p) := by
 rw [prmB, Bool.and_eq_true] at h
 refine .cons (.name h.1) (.cons (.sign (by decide)) (.cons ?_ .nil))
 unfold tyX; split
 · exact .word (by decide +kernel)
 · exact .word (by decide +kernel)
theorem toks_sep {α : Type} {f : α → List Str} {s : Str} (hs : Tok s) : ∀ l : List α, (∀ x ∈ l, Toks (f x)) → Toks (wtail s (l.map f)) ∧ Toks (wsep s (l.map f))
 | [], _ => ⟨.nil, .nil⟩
 | x :: r, h => by
   have ih := toks_sep hs r fun y hy => h y (List.mem_cons_of_mem _ hy)
   exact ⟨.cons hs ((h x (by simp)).app ih.1), (h x (by simp)).app ih.1⟩
theorem toks_map {α : Type} {f : α → List Str} : ∀ l : List α, (∀ x ∈ l, Toks (f x)) → Toks ((l.map f).flatten)
 | [], _ => .nil
 | x :: r, h => (h x (by simp)).app (toks_map r fun y hy => h y (List.mem_cons_of_mem _ hy))
theorem tk_59 : Tok [59] := .sign (by decide)
theorem tk_61 : Tok [61] := .sign (by decide)
theorem toks_wIt {x : Itm} (h : itmB x = true) : Toks (wIt x) := by
 cases itF h with
 | ag k nm ty e f a =>
   unfold wIt
   rcases k with k | k
   · rw [if_pos k]; exact .cons (.word (by decide +kernel)) ((ef e).t.app (.cons tk_59 .nil))
   · rw [if_neg (by omega), if_pos k]; exact .cons (.word (by decide +kernel)) ((ef e).t.app (.cons tk_59 .nil))
 | gh k nm ty e f a =>
   have hp : prmB (x.2.1, x.2.2.1) = true := by unfold prmB; rw [nm]; rcases ty with ty | ty <;> simp [ty]
   unfold wIt
   rw [if_neg (by omega), if_neg (by omega), if_pos k]
   exact .cons (.word (by decide +kernel)) ((toks_wPm hp).app (.cons tk_61 ((ef e).t.app (.cons tk_59 .nil))))
 | md k nm ty e f a =>
   unfold wIt
   rw [if_neg (by omega), if_neg (by omega), if_neg (by omega), if_pos k]
   exact .cons (.word (by decide +kernel)) (.cons (.name nm) (.cons (.word (by decide +kernel)) ((ef e).t.app (.cons (.word (by decide +kernel)) ((ef f).t.app (.cons tk_59 .nil))))))
 | im k nm ty e f l a =>
   unfold wIt
   rw [if_neg (by omega), if_neg (by omega), if_neg (by omega), if_neg (by omega)]
   exact .cons (.word (by decide +kernel)) (.cons (.name nm) (.cons (.sign (by decide)) (((toks_sep (.sign (by decide)) _ fun y hy => (ef (a y hy)).t).2).app (.cons (.sign (by decide)) (.cons tk_59 .nil)))))
theorem toks_wIn {l : List Pm} (h : ∀ p ∈ l, prmB p = true) : Toks (wIn l) := .cons (.sign (by decide)) (((toks_sep tk_59 _ fun y hy => toks_wPm (h y hy)).2).app (.cons (.sign (by decide)) .nil))
theorem toks_wUn {u : Unt} (h : untB u = true) : Toks (wUn u) := by
 have H := unF h
 have hx : Toks (wIts u.2.2.2.2.2.2.2) := toks_map _ fun x hx => toks_wIt (H.xb x hx)
 have hq : Toks (wEqs u.2.2.2.2.2.2.1) := toks_map _ fun q hq => .cons (.name (eqF (H.qb q hq)).1) (.cons tk_61 ((ef (eqF (H.qb q hq)).2).t.app (.cons tk_59 .nil)))
 have hv : Toks (wVars u.2.2.2.2.2.1) := by
  unfold wVars; split
  · exact .cons (.word (by decide +kernel)) (((toks_sep tk_59 _ fun y hy => toks_wPm (H.vb y hy)).2).app (.cons tk_59 .nil))
  · exact .nil
 unfold wUn
 split
 · exact .cons (.word (by decide +kernel)) (.cons (.name H.nm) ((toks_wIn H.ib).app (hx.app (.cons (.word (by decide +kernel)) .nil))))
 · rename_i hk
   refine .cons (.word (by decide +kernel)) (.cons (.name H.nm) ((toks_wIn H.ib).app (.cons (.word (by decide +kernel)) ((toks_wIn (by intro p hp; rw [List.mem_singleton] at hp; subst hp; exact H.o (by simpa using hk))).app (Toks.app ?_ (hv.app (.cons (.word (by decide +kernel)) (hq.app (.cons (.word (by decide +kernel)) .nil)))))))))
   split
   · exact .cons (.word (by decide +kernel)) (hx.app (.cons (.word (by decide +kernel)) .nil))
   · exact .nil
theorem toks_wPg {p : Prg} (h : prgB p = true) : Toks (wPg p) := by
 have H := pgF h
 refine Toks.app (toks_map _ fun u hu => toks_wUn (H.u u hu)) ?_
 unfold wEnd
 refine .cons (.word (by decide +kernel)) (.cons (.name H.mn) (.cons tk_59 ?_))
 split
 · exact .nil
 · rename_i hb
   exact .cons (.word (by decide +kernel)) (.cons (.name (H.bk.resolve_left hb)) (.cons tk_59 .nil))
theorem tail15_eq {L : List Tok3} {k : Nat} (hk : k = L.length) (mn bk : Str) (us : List Unt) : ∃ z, k70 T.rb ([] : Str) ([] : Str) (0, 0) ((L, ((k : Nat) : Int), (0 : Int), (0 : Int)) : R6) mn bk [] us = some (.inr (mn, bk, (0, 0), z, mn, bk, [], us)) :=
 ⟨((L, ((k : Nat) : Int), (0 : Int), (0 : Int)) : R6), ob70 (by
   simp only [b70, ok6, bind_some, z6, cond_true, df (show ¬ ((k : Nat) : Int) < ((L.length : Nat) : Int) by omega), cond_false, Bool.not_true])⟩
theorem Parse_txt {p : Prg} (hp : prgB p = true) (hl : (txt (wPg p)).length ≤ 100000) : c3 T.rf (txt (wPg p)) = some (ordP p, 0, 0) := or3 (by
 obtain ⟨L, h1, h2, h3⟩ := Lex_txt (toks_wPg hp) hl
 have H := pgF hp
 obtain ⟨us, mn, bk⟩ := p
 have hmn := H.mn; have hbk := H.bk; have hn := H.n; have hu := H.u
 simp only at hmn hbk hn hu
 have hLen : L.length ≤ 1000000000 := by
  rw [h3]
  have : ∀ l : List Str, l.length ≤ (J l).length := fun l => by
   induction l with
   | nil => simp
   | cons x l ih => rw [J_c, length_cons]; omega
  have h4 := this (wPg (us, mn, bk))
  have h5 : (J (wPg (us, mn, bk))).length ≤ (txt (wPg (us, mn, bk))).length + 1 := by unfold txt; rw [List.length_drop]; omega
  omega
 rw [wPg] at h2
 obtain ⟨g1, g2⟩ := Reads_app.1 h2
 simp only [Nat.zero_add] at g2
 unfold wEnd at g2
 obtain ⟨⟨a1, e1⟩, e2, ⟨a3, e3⟩, g3⟩ := g2
 obtain ⟨a2, e2⟩ := is_name hmn e2
 have hlt := nth_lt e3
 have hloop := units6_loop hLen ([] : Str) ([] : Str) us 0 [] hu (Reads_app.2 ⟨g1, ⟨a1, by rw [Nat.zero_add]; exact e1⟩, trivial⟩) (by simpa using hn)
 rw [show ((0 : Nat) : Int) = (0 : Int) from rfl] at hloop
 simp only [Nat.zero_add, List.nil_append] at hloop
 have b1 : isB L (wUns us).length ([109, 97, 105, 110] : Str) = true := by rw [isB_tok e1 (.inr kd_main)]; rfl
 have b3 : isB L ((wUns us).length + 1 + 1) [59] = true := by rw [isB_tok e3 (.inl kd_59)]; rfl
 have hlen : L.length = (wUns us).length + (3 + (if bk = [] then 0 else 3)) := by
  rw [h3, wPg, length_append]
  unfold wEnd
  split <;> rfl
 simp only [r3, h1, bind_some, z0, cond_false, hloop, need6_eq (show (wUns us).length ≤ 2000000000 by omega) b1, name6_eq (show (wUns us).length + 1 ≤ 2000000000 by omega) e2, need6_eq (show (wUns us).length + 1 + 1 ≤ 2000000000 by omega) b3, take6_eq L (show (wUns us).length + 1 + 1 + 1 ≤ 2000000000 by omega)]
 by_cases hb : bk = []
 · subst hb
   rw [if_pos rfl] at hlen
   have b4 : isB L ((wUns us).length + 1 + 1 + 1) ([102, 97, 108, 108, 98, 97, 99, 107] : Str) = false := by
    unfold isB
    rw [show nth L ((wUns us).length + 1 + 1 + 1) = none by rw [nth_getElem?]; exact List.getElem?_eq_none (by omega)]
   obtain ⟨z, hz⟩ := tail15_eq (L := L) (k := (wUns us).length + 1 + 1 + 1) (by omega) mn [] (us.map ordU)
   rw [b4, cond_false]
   simp only [cond_false]
   rw [hz]
   rfl
 · rw [if_neg hb] at hlen g3
   obtain ⟨⟨a4, e4⟩, e5, ⟨a6, e6⟩, _⟩ := g3
   obtain ⟨a5, e5⟩ := is_name (hbk.resolve_left hb) e5
   have b4 : isB L ((wUns us).length + 1 + 1 + 1) ([102, 97, 108, 108, 98, 97, 99, 107] : Str) = true := by rw [isB_tok e4 (.inr kd_fallback)]; rfl
   have b6 : isB L ((wUns us).length + 1 + 1 + 1 + 1 + 1) [59] = true := by rw [isB_tok e6 (.inl kd_59)]; rfl
   obtain ⟨z, hz⟩ := tail15_eq (L := L) (k := (wUns us).length + 1 + 1 + 1 + 1 + 1 + 1) (by omega) mn bk (us.map ordU)
   rw [b4, cond_true]
   simp only [cond_true, name6_eq (show (wUns us).length + 1 + 1 + 1 + 1 ≤ 2000000000 by omega) e5, bind_some, need6_eq (show (wUns us).length + 1 + 1 + 1 + 1 + 1 ≤ 2000000000 by omega) b6]
   rw [hz]
   rfl)
theorem Parse_long {s : Str} (h : ¬ s.length ≤ 100000) : ∃ q a, c3 T.rf s = some (q, 7, a) := by
 have hL : ∃ a, c4 T.rf s = some ([], 7, a) := ⟨_, or4 (by simp only [r4, dt (show ((s.length : Nat) : Int) > 100000 by omega), cond_true]; rfl)⟩
 obtain ⟨a, hL⟩ := hL
 exact ⟨([], [], []), a, or3 (by simp only [r3, hL, bind_some, show ((7 : Int) != 0) = true from rfl, cond_true])⟩
theorem ListBack_eq (p : Prg) : c0 T.rf p = some true := or0 (by
 have live_eq : c2 T.rf = some true := live_run
 obtain ⟨s, h1, h2⟩ := Small_eq p
 simp only [r0, h1, bind_some, live_eq]
 cases s with
 | false => rfl
 | true =>
   have hs := h2 rfl
   have hj : prgB p = true → (J (wPg p)).length ≤ 200000000000 := fun h => Nat.le_trans (wPg_J hs h) (by decide)
   have ho := ordP_sz hs
   rw [Bool.not_true, cond_false, Write_list hs (by decide) (by decide) hj, bind_some, May_list hs (by decide) (by decide), bind_some]
   cases hp : prgB p with
   | false => rfl
   | true =>
     rw [Bool.not_true, cond_false, if_pos rfl]
     by_cases hl : (txt (wPg p)).length ≤ 100000
     · rw [Parse_txt hp hl, bind_some]
       simp only [show ((0 : Int) == 7) = false from rfl, cond_false, z6, cond_true]
       rw [Order_list hs (by decide) (by decide), bind_some, Same_refl (by decide) (by decide) ho]
       rfl
     · obtain ⟨q, a, hq⟩ := Parse_long hl
       rw [hq, bind_some]
       simp only [show ((7 : Int) == 7) = true from rfl, cond_true, dt (show (((txt (wPg p)).length : Nat) : Int) > 100000 by omega)])
theorem lawListBack : LawOk T 0 := fun d _ => ⟨true, ListBack_eq d, rfl, rfl, rfl⟩
end Go.Proofs.YtlobhcgbmpcdlaaGreatDoor.R
