import Derived.Test.YtlobhcgbmpcdlaaGreatDoorLstB
import Derived.Test.YtlobhcgbmpcdlaaGreatDoorShwZ
open Option (bind_some)
open List (length_cons length_nil)
open Bool (and_eq_true)
namespace Go.Proofs.YtlobhcgbmpcdlaaGreatDoor.R
open Go Go.Bm Go.Proofs
set_option linter.unusedVariables false
set_option linter.unusedSimpArgs false
set_option maxRecDepth 4000
noncomputable def etr (e : List Nd) : Tr := by
 classical exact if h : mayB e = true then Classical.choose (norm_tree h) else .mk (1, -1, -1, -1, 0, []) []
structure ETr (e : List Nd) (t : Tr) : Prop where
 emb : Emb e (e.length - 1) t
 v : Valid t
 o : t.op ≠ 28
 s : t.size ≤ 5000
 l : t.size = e.length
 n : norm e = flat t 0
 m : mayB (flat t 0) = true
 d : dep t ≤ 40
 nm : namesT t = true
theorem mayS_may {e : List Nd} (h : mayS e = true) : mayB e = true := by rw [mayS, and_eq_true] at h; exact h.1
theorem etr_of {e : List Nd} (h : mayS e = true) : ETr e (etr e) := by
 have hm := mayS_may h
 obtain ⟨k1, k2, k3, k4, k5, k6, k7, k8⟩ := Classical.choose_spec (norm_tree hm)
 have he : etr e = Classical.choose (norm_tree hm) := by unfold etr; rw [dif_pos hm]
 rw [← he] at k1 k2 k3 k4 k5 k6 k7 k8
 obtain ⟨t, q1, q2, q3, q4, q5, q6, q7⟩ := may_tree hm
 have := emb_one _ _ _ q1 k1
 subst this
 rw [mayS, and_eq_true] at h
 exact ⟨k1, k2, k3, k4, k5, k6, k7, q6, by rw [← names_tree hm k1]; exact h.2⟩
noncomputable def etoks (e : List Nd) : List Str := toks (etr e)
theorem ETr.len {e : List Nd} {t : Tr} (h : ETr e t) : 1 ≤ (toks t).length := (toks_len t.size t _ (Nat.le_refl _) h.emb h.v).1
theorem ETr.one {e : List Nd} {t u : Tr} (h : ETr e t) (k : ETr e u) : t = u := emb_one _ _ _ h.emb k.emb
theorem norm_notB {e : List Nd} (h : mayB e = false) : norm e = [] := by
 unfold norm subE
 rw [if_neg (by rw [h]; simp)]
theorem mayB_nil : mayB [] = false := rfl
theorem norm_nil : norm [] = [] := norm_notB mayB_nil
theorem J60 {e : List Nd} : ∀ (m : Nat) (t : Tr) (i : Nat), t.size ≤ m → Emb e i t → Valid t → namesT t = true → (J (toks t)).length ≤ 60 * t.size := by
 intro m
 induction m with
 | zero => intro t i h; have := t.size_pos; omega
 | succ m ih =>
   intro t i hm ht hv hn
   cases shape ht hv with
   | leaf h hx hN hs =>
     rename_i op a b c nn nm
     obtain ⟨hnb, _⟩ := namesX hn
     have h1 := itoaX_len nn
     have h2 := boolX_len nn
     have h3 : nm.length ≤ 40 := nameN_len hnb
     rw [toks_leaf h, size0, J_c, J_n]
     split
     · omega
     split <;> omega
   | call0 hx hN hs =>
     rename_i b c nn nm
     have h3 : nm.length ≤ 40 := nameN_len (namesX hn).1
     rw [toks_call0, size0, J_c, J_c, J_c, J_n]
     simp only [length_cons, length_nil]; omega
   | call1 hx hN hs hj ht1 hv1 ho =>
     rename_i b c nn nm j t1
     obtain ⟨hnb, hnl⟩ := namesX hn
     have h3 : nm.length ≤ 40 := nameN_len hnb
     rw [namesL, namesL, Bool.and_true] at hnl
     rw [size1] at hm ⊢
     have := ih _ _ (by omega) ht1 hv1 hnl
     rw [toks_call1, J_c, J_c, J_a, J_c, J_n]
     simp only [length_cons, length_nil]; omega
   | arg1 hx hN hs hj ht1 hv1 ho =>
     obtain ⟨hnb, hnl⟩ := namesX hn
     rw [namesL, namesL, Bool.and_true] at hnl
     rw [size1] at hm ⊢
     have := ih _ _ (by omega) ht1 hv1 hnl
     rw [toks_arg1]; omega
   | arg2 hx hN hs hj ht1 hv1 ho hk hu hvu hou =>
     obtain ⟨hnb, hnl⟩ := namesX hn
     rw [namesL, namesL, namesL, Bool.and_true, and_eq_true] at hnl
     rw [size2] at hm ⊢
     have := ih _ _ (by omega) ht1 hv1 hnl.1
     have := ih _ _ (by omega) hu hvu hnl.2
     rw [toks_arg2, J_a, J_c]
     simp only [length_cons, length_nil]; omega
   | ite hx hN hs hj ht1 hv1 ho hk hu hvu hou hl hw hvw how =>
     obtain ⟨hnb, hnl⟩ := namesX hn
     rw [namesL, namesL, namesL, namesL, Bool.and_true, and_eq_true, and_eq_true] at hnl
     rw [size3] at hm ⊢
     have := ih _ _ (by omega) ht1 hv1 hnl.1
     have := ih _ _ (by omega) hu hvu hnl.2.1
     have := ih _ _ (by omega) hw hvw hnl.2.2
     have h4 := opX_len 26
     rw [toks_ite, J_c, J_a, J_c, J_a, J_c]
     simp only [length_cons, length_nil]; omega
   | un h hx hN hs hj ht1 hv1 ho =>
     rename_i op b c nn nm j t1
     obtain ⟨hnb, hnl⟩ := namesX hn
     rw [namesL, namesL, Bool.and_true] at hnl
     rw [size1] at hm ⊢
     have := ih _ _ (by omega) ht1 hv1 hnl
     have h4 := opX_len op
     have h1 := itoaX_len nn
     have h5 := J_part 9 (t1.op, toks t1)
     simp only at h5
     rw [toks_un h, J_c, J_a]
     split
     · rename_i h25
       have h6 : (opX op).length = 6 := by rw [h25]; rfl
       rw [J_c, J_n]; omega
     · rw [J_n]; omega
   | bin h hx hN hs hj ht1 hv1 ho hk hu hvu hou =>
     rename_i op c nn nm j k t1 u1
     obtain ⟨hnb, hnl⟩ := namesX hn
     rw [namesL, namesL, namesL, Bool.and_true, and_eq_true] at hnl
     rw [size2] at hm ⊢
     have := ih _ _ (by omega) ht1 hv1 hnl.1
     have := ih _ _ (by omega) hu hvu hnl.2
     have h4 := opX_len op
     have h5 := J_part (leftX op) (t1.op, toks t1)
     have h6 := J_part (rightX op) (u1.op, toks u1)
     simp only at h5 h6
     rw [toks_bin h, J_a, J_c]
     omega
structure EF (e : List Nd) : Prop where
 len : 1 ≤ (etoks e).length
 j : (J (etoks e)).length ≤ 60 * e.length
 t : Toks (etoks e)
 sz : e.length ≤ 5000
theorem ef {e : List Nd} (h : mayS e = true) : EF e := by
 have H := etr_of h
 exact ⟨H.len, by rw [← H.l]; exact J60 _ _ _ (Nat.le_refl _) H.emb H.v H.nm, toks_tok _ _ _ (Nat.le_refl _) H.emb H.v H.nm, by rw [← H.l]; exact H.s⟩
theorem Show_e {e : List Nd} (h : mayS e = true) : c119 T.rf e = some (txt (etoks e)) := by
 have H := etr_of h
 have := Show_tree (mayS_may h) H.emb H.v H.s H.o (by rw [← H.l]; have := H.s; omega)
 rw [H.nm, if_pos rfl] at this; exact this
def sg (l : List Str) : List (List Str) := l.map fun s => [s]
def wrG (G : List (List Str)) : List Tok3 := G.map fun g => mkT (txt g)
theorem sg_flat (l : List Str) : (sg l).flatten = l := by induction l with
 | nil => rfl
 | cons x l ih => simp only [sg, List.map_cons, List.flatten_cons] at ih ⊢; rw [ih]; rfl
theorem txt_one (s : Str) : txt [s] = s := by rw [txt_cons, J_nil, List.append_nil]
theorem wr_sg (l : List Str) : wrG (sg l) = l.map mkT := by
 simp only [wrG, sg, List.map_map]
 apply List.map_congr_left
 intro s _
 simp only [Function.comp, txt_one]
theorem wr_app (a b : List (List Str)) : wrG (a ++ b) = wrG a ++ wrG b := by simp [wrG]
theorem wr_len (a : List (List Str)) : (wrG a).length = a.length := by simp [wrG]
def Full (G : List (List Str)) : Prop := ∀ g ∈ G, 1 ≤ g.length
theorem Full.app {a b : List (List Str)} (h : Full a) (k : Full b) : Full (a ++ b) := fun g hg => (List.mem_append.1 hg).elim (h g) (k g)
theorem Full.sg (l : List Str) : Full (sg l) := fun g hg => by obtain ⟨s, _, rfl⟩ := List.mem_map.1 hg; simp
theorem joinR_wr : ∀ {G : List (List Str)}, Full G → joinR (wrG G) = J G.flatten
 | [], _ => rfl
 | g :: G, h => by
   have hg := h g (by simp)
   rw [wrG, List.map_cons, joinR]
   rw [show G.map (fun g => mkT (txt g)) = wrG G from rfl, joinR_wr fun x hx => h x (List.mem_cons_of_mem _ hx), List.flatten_cons, J_app, J_txt hg]
   simp [mkT]
theorem joinX_wr : ∀ {G : List (List Str)}, Full G → joinX (wrG G) = txt G.flatten
 | [], _ => rfl
 | g :: G, h => by
   have hg := h g (by simp)
   rw [wrG, List.map_cons, joinX]
   rw [show G.map (fun g => mkT (txt g)) = wrG G from rfl, joinR_wr fun x hx => h x (List.mem_cons_of_mem _ hx), List.flatten_cons, txt_app hg]
   simp [mkT]
def gtail (s : Str) : List (List (List Str)) → List (List Str)
 | [] => []
 | x :: r => [s] :: (x ++ gtail s r)
def gsep (s : Str) : List (List (List Str)) → List (List Str)
 | [] => []
 | x :: r => x ++ gtail s r
def wtail (s : Str) : List (List Str) → List Str
 | [] => []
 | x :: r => s :: (x ++ wtail s r)
def wsep (s : Str) : List (List Str) → List Str
 | [] => []
 | x :: r => x ++ wtail s r
theorem gtail_flat (s : Str) : ∀ l : List (List (List Str)), (gtail s l).flatten = wtail s (l.map List.flatten)
 | [] => rfl
 | x :: r => by rw [gtail, List.flatten_cons, List.flatten_append, gtail_flat s r]; rfl
theorem gsep_flat (s : Str) : ∀ l : List (List (List Str)), (gsep s l).flatten = wsep s (l.map List.flatten)
 | [] => rfl
 | x :: r => by rw [gsep, List.flatten_append, gtail_flat s r]; rfl
theorem gtail_full (s : Str) : ∀ l : List (List (List Str)), (∀ G ∈ l, Full G) → Full (gtail s l)
 | [], _ => fun g hg => by cases hg
 | x :: r, h => fun g hg => by
   rw [gtail, List.mem_cons] at hg
   rcases hg with rfl | hg
   · simp
   · exact Full.app (h x (by simp)) (gtail_full s r fun G hG => h G (List.mem_cons_of_mem _ hG)) g hg
theorem gsep_full (s : Str) : ∀ l : List (List (List Str)), (∀ G ∈ l, Full G) → Full (gsep s l)
 | [], _ => fun g hg => by cases hg
 | x :: r, h => Full.app (h x (by simp)) (gtail_full s r fun G hG => h G (List.mem_cons_of_mem _ hG))
def tyX (t : Int) : Str := if t = 1 then [98, 111, 111, 108] else [105, 110, 116]
def wPm (p : Pm) : List Str := [p.1, [58], tyX p.2]
def gPm (p : Pm) : List (List Str) := sg (wPm p)
def gIn (l : List Pm) : List (List Str) := sg [[40]] ++ (gsep [59] (l.map gPm) ++ sg [[41]])
def wIn (l : List Pm) : List Str := [40] :: (wsep [59] (l.map wPm) ++ [[41]])
noncomputable def gE (e : List Nd) : List (List Str) := [etoks e]
noncomputable def gIt (x : Itm) : List (List Str) :=
 if x.1 = 1 then sg [[97, 115, 115, 117, 109, 101]] ++ (gE x.2.2.2.1 ++ sg [[59]]) else
 if x.1 = 2 then sg [[103, 117, 97, 114, 97, 110, 116, 101, 101]] ++ (gE x.2.2.2.1 ++ sg [[59]]) else
 if x.1 = 3 then sg [[103, 104, 111, 115, 116]] ++ (gPm (x.2.1, x.2.2.1) ++ (sg [[61]] ++ (gE x.2.2.2.1 ++ sg [[59]]))) else
 if x.1 = 4 then sg [[109, 111, 100, 101], x.2.1, [114, 101, 113, 117, 105, 114, 101]] ++ (gE x.2.2.2.1 ++ (sg [[101, 110, 115, 117, 114, 101]] ++ (gE x.2.2.2.2.1 ++ sg [[59]]))) else
 sg [[105, 109, 112, 111, 114, 116], x.2.1, [40]] ++ (gsep [44] (x.2.2.2.2.2.map gE) ++ (sg [[41]] ++ sg [[59]]))
noncomputable def wIt (x : Itm) : List Str :=
 if x.1 = 1 then [97, 115, 115, 117, 109, 101] :: (etoks x.2.2.2.1 ++ [[59]]) else
 if x.1 = 2 then [103, 117, 97, 114, 97, 110, 116, 101, 101] :: (etoks x.2.2.2.1 ++ [[59]]) else
 if x.1 = 3 then [103, 104, 111, 115, 116] :: (wPm (x.2.1, x.2.2.1) ++ ([61] :: (etoks x.2.2.2.1 ++ [[59]]))) else
 if x.1 = 4 then [109, 111, 100, 101] :: x.2.1 :: [114, 101, 113, 117, 105, 114, 101] :: (etoks x.2.2.2.1 ++ ([101, 110, 115, 117, 114, 101] :: (etoks x.2.2.2.2.1 ++ [[59]]))) else
 [105, 109, 112, 111, 114, 116] :: x.2.1 :: [40] :: (wsep [44] (x.2.2.2.2.2.map etoks) ++ [[41], [59]])
noncomputable def gEq (q : Eqn) : List (List Str) := sg [q.1, [61]] ++ (gE q.2 ++ sg [[59]])
noncomputable def wEq (q : Eqn) : List Str := q.1 :: [61] :: (etoks q.2 ++ [[59]])
noncomputable def gIts (l : List Itm) : List (List Str) := (l.map gIt).flatten
noncomputable def wIts (l : List Itm) : List Str := (l.map wIt).flatten
noncomputable def gEqs (l : List Eqn) : List (List Str) := (l.map gEq).flatten
noncomputable def wEqs (l : List Eqn) : List Str := (l.map wEq).flatten
def gVars (l : List Pm) : List (List Str) := if l.length > 0 then sg [[118, 97, 114]] ++ (gsep [59] (l.map gPm) ++ sg [[59]]) else []
def wVars (l : List Pm) : List Str := if l.length > 0 then [118, 97, 114] :: (wsep [59] (l.map wPm) ++ [[59]]) else []
noncomputable def gUn (u : Unt) : List (List Str) :=
 if u.1 = true then sg [[99, 111, 110, 116, 114, 97, 99, 116], u.2.1] ++ (gIn u.2.2.1 ++ (gIts u.2.2.2.2.2.2.2 ++ sg [[101, 110, 100]])) else
 sg [[110, 111, 100, 101], u.2.1] ++ (gIn u.2.2.1 ++ (sg [[114, 101, 116, 117, 114, 110, 115]] ++ (gIn [(u.2.2.2.1, u.2.2.2.2.1)] ++ ((if u.2.2.2.2.2.2.2.length > 0 then sg [[99, 111, 110, 116, 114, 97, 99, 116]] ++ (gIts u.2.2.2.2.2.2.2 ++ sg [[101, 110, 100]]) else []) ++ (gVars u.2.2.2.2.2.1 ++ (sg [[108, 101, 116]] ++ (gEqs u.2.2.2.2.2.2.1 ++ sg [[116, 101, 108]])))))))
noncomputable def wUn (u : Unt) : List Str :=
 if u.1 = true then [99, 111, 110, 116, 114, 97, 99, 116] :: u.2.1 :: (wIn u.2.2.1 ++ (wIts u.2.2.2.2.2.2.2 ++ [[101, 110, 100]])) else
 [110, 111, 100, 101] :: u.2.1 :: (wIn u.2.2.1 ++ ([114, 101, 116, 117, 114, 110, 115] :: (wIn [(u.2.2.2.1, u.2.2.2.2.1)] ++ ((if u.2.2.2.2.2.2.2.length > 0 then [99, 111, 110, 116, 114, 97, 99, 116] :: (wIts u.2.2.2.2.2.2.2 ++ [[101, 110, 100]]) else []) ++ (wVars u.2.2.2.2.2.1 ++ ([108, 101, 116] :: (wEqs u.2.2.2.2.2.2.1 ++ [[116, 101, 108]])))))))
noncomputable def gUns (l : List Unt) : List (List Str) := (l.map gUn).flatten
noncomputable def wUns (l : List Unt) : List Str := (l.map wUn).flatten
def wEnd (mn bk : Str) : List Str := [109, 97, 105, 110] :: mn :: [59] :: (if bk = [] then [] else [[102, 97, 108, 108, 98, 97, 99, 107], bk, [59]])
noncomputable def gPg (p : Prg) : List (List Str) := gUns p.1 ++ sg (wEnd p.2.1 p.2.2)
noncomputable def wPg (p : Prg) : List Str := wUns p.1 ++ wEnd p.2.1 p.2.2
theorem gPm_flat (p : Pm) : (gPm p).flatten = wPm p := sg_flat _
theorem gPms_flat (s : Str) (l : List Pm) : (gsep s (l.map gPm)).flatten = wsep s (l.map wPm) := by
 rw [gsep_flat, List.map_map]; rfl
theorem gIn_flat (l : List Pm) : (gIn l).flatten = wIn l := by
 rw [gIn, List.flatten_append, List.flatten_append, sg_flat, sg_flat, gPms_flat]; rfl
theorem gE_flat (e : List Nd) : (gE e).flatten = etoks e := by rw [gE, List.flatten_cons, List.flatten_nil, List.append_nil]
theorem gIt_flat (x : Itm) : (gIt x).flatten = wIt x := by
 unfold gIt wIt
 split
 · simp only [List.flatten_append, sg_flat, gE_flat]; rfl
 split
 · simp only [List.flatten_append, sg_flat, gE_flat]; rfl
 split
 · simp only [List.flatten_append, sg_flat, gE_flat, gPm_flat]; rfl
 split
 · simp only [List.flatten_append, sg_flat, gE_flat]; rfl
 · have : (gsep [44] (x.2.2.2.2.2.map gE)).flatten = wsep [44] (x.2.2.2.2.2.map etoks) := by
    rw [gsep_flat, List.map_map]; congr 1
    apply List.map_congr_left; intro p _; exact gE_flat p
   simp only [List.flatten_append, sg_flat, this]; rfl
theorem flats_of {α : Type} {g : α → List (List Str)} {f : α → List Str} (h : ∀ x, (g x).flatten = f x) : ∀ l : List α, ((l.map g).flatten).flatten = (l.map f).flatten
 | [] => rfl
 | x :: l => by rw [List.map_cons, List.flatten_cons, List.flatten_append, h, flats_of h l]; rfl
theorem gIts_flat (l : List Itm) : (gIts l).flatten = wIts l := flats_of gIt_flat l
theorem gEq_flat (q : Eqn) : (gEq q).flatten = wEq q := by simp only [gEq, List.flatten_append, sg_flat, gE_flat]; rfl
theorem gEqs_flat (l : List Eqn) : (gEqs l).flatten = wEqs l := flats_of gEq_flat l
theorem gVars_flat (l : List Pm) : (gVars l).flatten = wVars l := by
 unfold gVars wVars
 split
 · simp only [List.flatten_append, sg_flat, gPms_flat]; rfl
 · rfl
theorem gUn_flat (u : Unt) : (gUn u).flatten = wUn u := by
 unfold gUn wUn
 split
 · simp only [List.flatten_append, sg_flat, gIn_flat, gIts_flat]; rfl
 · by_cases h : u.2.2.2.2.2.2.2.length > 0
   · simp only [if_pos h, List.flatten_append, sg_flat, gIn_flat, gIts_flat, gVars_flat, gEqs_flat]; rfl
   · simp only [if_neg h, List.flatten_append, sg_flat, gIn_flat, gIts_flat, gVars_flat, gEqs_flat]; rfl
theorem gUns_flat (l : List Unt) : (gUns l).flatten = wUns l := flats_of gUn_flat l
theorem gPg_flat (p : Prg) : (gPg p).flatten = wPg p := by rw [gPg, List.flatten_append, gUns_flat, sg_flat]; rfl
theorem lput_loop : ∀ (suf pre : List Str) (out : List Tok3), out.length + suf.length ≤ 100000000000 → (pre ++ suf).length ≤ 1000 →
  k93 T.rb out (pre ++ suf) (((pre ++ suf).length : Nat) : Int) (pre.length : Nat) = some (out ++ suf.map mkT)
 | [], pre, out, _, _ => ob93 (by simp only [b93, lt_end, lt_self, cond_false, List.map_nil, List.append_nil])
 | x :: suf, pre, out, h, h2 => ob93 (by
   simp only [length_cons] at h
   have ih := lput_loop suf (pre ++ [x]) (out ++ [mkT x]) (by simp; omega) (by simpa using h2)
   simp only [List.append_assoc, List.singleton_append] at ih
   simp only [b93, lt_mid, inb_mid, nth_mid, cond_true, bind_some, ble_most (show out.length + 1 ≤ 274877906944 by omega), Bool.and_true, next_mid pre x (by simp at h2; omega)]
   exact ih)
theorem lput_eq {out : List Tok3} {l : List Str} (h : out.length + l.length ≤ 100000000000) (h2 : l.length ≤ 1000) : c113 T.rf out l = some (out ++ wrG (sg l)) := or113 (by
 have := lput_loop l [] out h (by simpa using h2)
 simp only [List.nil_append, length_nil] at this
 rw [show ((0 : Nat) : Int) = (0 : Int) from rfl] at this
 simp only [r113, this, bind_some, wr_sg])
theorem lparam_eq {out : List Tok3} (p : Pm) (h : out.length ≤ 10000000000) : c116 T.rf out p = some (out ++ wrG (gPm p)) := or116 (by
 have e : wrG (gPm p) = wrG (sg [p.1, [58]]) ++ wrG (sg [tyX p.2]) := by rw [← wr_app]; rfl
 simp only [r116, lput_eq (out := out) (l := [p.1, [58]]) (by simp only [length_cons, length_nil]; omega) (by simp), bind_some, e]
 by_cases ht : p.2 = 1
 · simp only [bt ht, cond_true, tyX, if_pos ht, lput_eq (out := out ++ wrG (sg [p.1, [58]])) (l := [[98, 111, 111, 108]]) (by simp [wr_len, sg]; omega) (by simp), bind_some, List.append_assoc]
 · simp only [bf ht, cond_false, tyX, if_neg ht, lput_eq (out := out ++ wrG (sg [p.1, [58]])) (l := [[105, 110, 116]]) (by simp [wr_len, sg]; omega) (by simp), bind_some, List.append_assoc])
theorem lexpr_eq {out : List Tok3} {e : List Nd} (he : mayS e = true) (h : out.length ≤ 10000000000) : c118 T.rf out e = some (out ++ wrG (gE e)) := or118 (by
 have e1 : wrG (sg [txt (etoks e)]) = wrG (gE e) := by simp [wrG, sg, gE, txt_one]
 simp only [r118, Show_e he, bind_some, lput_eq (out := out) (l := [txt (etoks e)]) (by simp only [length_cons, length_nil]; omega) (by simp), e1])
theorem many_gen {α : Type} {g : α → List (List Str)} {s : Str} {k : List Tok3 → Str → List α → Int → Int → Option (List Tok3)} {one : List Tok3 → α → Option (List Tok3)} (B : Nat)
  (hk : ∀ (out : List Tok3) (pre : List α) (x : α) (suf : List α) (N : Nat) (y : List Tok3), N = (pre ++ x :: suf).length → N ≤ 1000000 → (if 0 < pre.length then (one (out ++ wrG (sg [s])) x).bind fun o => k o s (pre ++ x :: suf) ((N : Nat) : Int) (((pre ++ [x]).length : Nat) : Int) else (one out x).bind fun o => k o s (pre ++ x :: suf) ((N : Nat) : Int) (((pre ++ [x]).length : Nat) : Int)) = some y → out.length ≤ 10000000000 → k out s (pre ++ x :: suf) ((N : Nat) : Int) ((pre.length : Nat) : Int) = some y)
  (h0 : ∀ (out : List Tok3) (l : List α), k out s l ((l.length : Nat) : Int) ((l.length : Nat) : Int) = some out) (N : Nat) (hN : N ≤ 1000000) :
  ∀ (suf pre : List α) (out : List Tok3), N = (pre ++ suf).length → (∀ x ∈ suf, (g x).length ≤ B ∧ ∀ out : List Tok3, out.length ≤ 10000000000 → one out x = some (out ++ wrG (g x))) → out.length + suf.length * (B + 1) ≤ 1000000000 →
  k out s (pre ++ suf) ((N : Nat) : Int) ((pre.length : Nat) : Int) = some (out ++ wrG (if 0 < pre.length then gtail s (suf.map g) else gsep s (suf.map g)))
 | [], pre, out, h, _, _ => by
   have := h0 out pre
   simp only [List.append_nil] at h ⊢
   rw [h, this]
   split <;> simp [gtail, gsep, wrG]
 | x :: suf, pre, out, h, hx, hl => by
   obtain ⟨hb, h1⟩ := hx x (by simp)
   have hmul : (suf.length + 1) * (B + 1) = suf.length * (B + 1) + (B + 1) := Nat.succ_mul _ _
   simp only [length_cons] at hl
   refine hk out pre x suf N _ h hN ?_ (by omega)
   have ih : ∀ out' : List Tok3, out'.length ≤ out.length + B + 1 → k out' s (pre ++ x :: suf) ((N : Nat) : Int) (((pre ++ [x]).length : Nat) : Int) = some (out' ++ wrG (gtail s (suf.map g))) := fun out' ho => by
    have := many_gen B hk h0 N hN suf (pre ++ [x]) out' (by simpa using h) (fun y hy => hx y (List.mem_cons_of_mem _ hy)) (by omega)
    rw [if_pos (by simp)] at this
    simpa using this
   by_cases hp : 0 < pre.length
   · rw [if_pos hp, if_pos hp, h1 _ (by simp [wr_len, sg]; omega), bind_some, ih _ (by simp [wr_len, sg]; omega)]
     simp [gtail, wrG, sg]
   · rw [if_neg hp, if_neg hp, h1 _ (by omega), bind_some, ih _ (by simp [wr_len]; omega)]
     simp [gsep, wrG]
theorem lmanyP_eq {out : List Tok3} {l : List Pm} (s : Str) (hl : l.length ≤ 1000000) (h : out.length + l.length * (3 + 1) ≤ 1000000000) : c115 T.rf out l s = some (out ++ wrG (gsep s (l.map gPm))) := or115 (by
 have := many_gen (g := gPm) (s := s) (k := k95 T.rb) (one := c116 T.rf) 3 (fun out pre x suf N y hN hN2 hy ho => ob95 (by
  have hp : pre.length < 4611686018427387904 := by subst hN; simp at hN2; omega
  simp only [b95, lt_midN pre x suf hN, inb_mid, nth_mid, cond_true, bind_some, next_mid pre x hp]
  by_cases hp0 : 0 < pre.length
  · rw [if_pos hp0] at hy
    rw [dt (show ((pre.length : Nat) : Int) > 0 by omega), cond_true, lput_eq (out := out) (l := [s]) (by simp only [length_cons, length_nil]; omega) (by simp), bind_some]
    exact hy
  · rw [if_neg hp0] at hy
    rw [df (show ¬ ((pre.length : Nat) : Int) > 0 by omega), cond_false]
    exact hy)) (fun out l => ob95 (by simp only [b95, lt_self, cond_false])) l.length hl l [] out rfl (fun x hx => ⟨by simp [gPm, sg, wPm], fun o ho => lparam_eq x ho⟩) h
 simp only [List.nil_append, length_nil, Nat.lt_irrefl, if_false] at this
 rw [show ((0 : Nat) : Int) = (0 : Int) from rfl] at this
 simp only [r115, this, bind_some])
theorem lmanyE_eq {out : List Tok3} {l : List (List Nd)} (s : Str) (he : ∀ x ∈ l, mayS x = true) (hl : l.length ≤ 1000000) (h : out.length + l.length * (1 + 1) ≤ 1000000000) : c131 T.rf out l s = some (out ++ wrG (gsep s (l.map gE))) := or131 (by
 have := many_gen (g := gE) (s := s) (k := k101 T.rb) (one := c118 T.rf) 1 (fun out pre x suf N y hN hN2 hy ho => ob101 (by
  have hp : pre.length < 4611686018427387904 := by subst hN; simp at hN2; omega
  simp only [b101, lt_midN pre x suf hN, inb_mid, nth_mid, cond_true, bind_some, next_mid pre x hp]
  by_cases hp0 : 0 < pre.length
  · rw [if_pos hp0] at hy
    rw [dt (show ((pre.length : Nat) : Int) > 0 by omega), cond_true, lput_eq (out := out) (l := [s]) (by simp only [length_cons, length_nil]; omega) (by simp), bind_some]
    exact hy
  · rw [if_neg hp0] at hy
    rw [df (show ¬ ((pre.length : Nat) : Int) > 0 by omega), cond_false]
    exact hy)) (fun out l => ob101 (by simp only [b101, lt_self, cond_false])) l.length hl l [] out rfl (fun x hx => ⟨by simp [gE], fun o ho => lexpr_eq (he x hx) ho⟩) h
 simp only [List.nil_append, length_nil, Nat.lt_irrefl, if_false] at this
 rw [show ((0 : Nat) : Int) = (0 : Int) from rfl] at this
 simp only [r131, this, bind_some])
end Go.Proofs.YtlobhcgbmpcdlaaGreatDoor.R
