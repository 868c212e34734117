import Derived.Test.YtlobhcgbmpcdlaaGreatDoorLstB
import Derived.Test.YtlobhcgbmpcdlaaGreatDoorShwZ
open Option (bind_some)
open List (length_cons length_nil)
open Bool (and_eq_true)
namespace Go.Proofs.YtlobhcgbmpcdlaaGreatDoor.R
open Go Go.Bm Go.Proofs
set_option linter.unusedVariables false
set_option linter.unusedSimpArgs false
set_option maxRecDepth 4000
noncomputable def etr (e : List Nd) : Tr := by
 classical exact if h : F9 e = true then Classical.choose (a4y h) else .mk (1, -1, -1, -1, 0, []) []
structure ETr (e : List Nd) (t : Tr) : Prop where
 emb : Emb e (e.length - 1) t
 v : Valid t
 o : t.op ≠ 28
 s : t.size ≤ 5000
 l : t.size = e.length
 n : norm e = flat t 0
 m : F9 (flat t 0) = true
 d : dep t ≤ 40
 nm : n9 t = true
theorem a7a {e : List Nd} (h : B3 e = true) : F9 e = true := by rw [B3, and_eq_true] at h; exact h.1
theorem b2h {e : List Nd} (h : B3 e = true) : ETr e (etr e) := by
 have hm := a7a h
 obtain ⟨k1, k2, k3, k4, k5, k6, k7, k8⟩ := Classical.choose_spec (a4y hm)
 have he : etr e = Classical.choose (a4y hm) := by unfold etr; rw [dif_pos hm]
 rw [← he] at k1 k2 k3 k4 k5 k6 k7 k8
 obtain ⟨t, q1, q2, q3, q4, q5, q6, q7⟩ := a7b hm
 have := a9B _ _ _ q1 k1
 subst this
 rw [B3, and_eq_true] at h
 exact ⟨k1, k2, k3, k4, k5, k6, k7, q6, by rw [← a2F hm k1]; exact h.2⟩
noncomputable def n7 (e : List Nd) : List Str := j9 (etr e)
theorem ETr.len {e : List Nd} {t : Tr} (h : ETr e t) : 1 ≤ (j9 t).length := (o4 t.size t _ (Nat.le_refl _) h.emb h.v).1
theorem ETr.one {e : List Nd} {t u : Tr} (h : ETr e t) (k : ETr e u) : t = u := a9B _ _ _ h.emb k.emb
theorem b7z : F9 [] = false := rfl
theorem J60 {e : List Nd} : ∀ (m : Nat) (t : Tr) (i : Nat), t.size ≤ m → Emb e i t → Valid t → n9 t = true → (J (j9 t)).length ≤ 60 * t.size := by
 intro m
 induction m with
 | zero => intro t i h; have := t.size_pos; omega
 | succ m ih =>
   intro t i hm ht hv hn
   cases shape ht hv with
   | leaf h hx hN hs =>
     rename_i op a b c nn nm
     obtain ⟨hnb, _⟩ := a1b hn
     have h1 := X1 nn
     have h2 := a8q nn
     have h3 : nm.length ≤ 40 := Q7 hnb
     rw [Y8 h, a9h, J_c, J_n]
     split
     · omega
     split <;> omega
   | call0 hx hN hs =>
     rename_i b c nn nm
     have h3 : nm.length ≤ 40 := Q7 (a1b hn).1
     rw [T1, a9h, J_c, J_c, J_c, J_n]
     simp only [length_cons, length_nil]; omega
   | call1 hx hN hs hj ht1 hv1 ho =>
     rename_i b c nn nm j t1
     obtain ⟨hnb, hnl⟩ := a1b hn
     have h3 : nm.length ≤ 40 := Q7 hnb
     rw [l9, l9, Bool.and_true] at hnl
     rw [T0] at hm ⊢
     have := ih _ _ (by omega) ht1 hv1 hnl
     rw [T3, J_c, J_c, J_a, J_c, J_n]
     simp only [length_cons, length_nil]; omega
   | arg1 hx hN hs hj ht1 hv1 ho =>
     obtain ⟨hnb, hnl⟩ := a1b hn
     rw [l9, l9, Bool.and_true] at hnl
     rw [T0] at hm ⊢
     have := ih _ _ (by omega) ht1 hv1 hnl
     rw [Y6]; omega
   | arg2 hx hN hs hj ht1 hv1 ho hk hu hvu hou =>
     obtain ⟨hnb, hnl⟩ := a1b hn
     rw [l9, l9, l9, Bool.and_true, and_eq_true] at hnl
     rw [a2q] at hm ⊢
     have := ih _ _ (by omega) ht1 hv1 hnl.1
     have := ih _ _ (by omega) hu hvu hnl.2
     rw [Y7, J_a, J_c]
     simp only [length_cons, length_nil]; omega
   | ite hx hN hs hj ht1 hv1 ho hk hu hvu hou hl hw hvw how =>
     obtain ⟨hnb, hnl⟩ := a1b hn
     rw [l9, l9, l9, l9, Bool.and_true, and_eq_true, and_eq_true] at hnl
     rw [b1E] at hm ⊢
     have := ih _ _ (by omega) ht1 hv1 hnl.1
     have := ih _ _ (by omega) hu hvu hnl.2.1
     have := ih _ _ (by omega) hw hvw hnl.2.2
     have h4 := Q3 26
     rw [a1z, J_c, J_a, J_c, J_a, J_c]
     simp only [length_cons, length_nil]; omega
   | un h hx hN hs hj ht1 hv1 ho =>
     rename_i op b c nn nm j t1
     obtain ⟨hnb, hnl⟩ := a1b hn
     rw [l9, l9, Bool.and_true] at hnl
     rw [T0] at hm ⊢
     have := ih _ _ (by omega) ht1 hv1 hnl
     have h4 := Q3 op
     have h1 := X1 nn
     have h5 := b1R 9 (t1.op, j9 t1)
     simp only at h5
     rw [a3S h, J_c, J_a]
     split
     · rename_i h25
       have h6 : (opX op).length = 6 := by rw [h25]; rfl
       rw [J_c, J_n]; omega
     · rw [J_n]; omega
   | bin h hx hN hs hj ht1 hv1 ho hk hu hvu hou =>
     rename_i op c nn nm j k t1 u1
     obtain ⟨hnb, hnl⟩ := a1b hn
     rw [l9, l9, l9, Bool.and_true, and_eq_true] at hnl
     rw [a2q] at hm ⊢
     have := ih _ _ (by omega) ht1 hv1 hnl.1
     have := ih _ _ (by omega) hu hvu hnl.2
     have h4 := Q3 op
     have h5 := b1R (a6U op) (t1.op, j9 t1)
     have h6 := b1R (a2L op) (u1.op, j9 u1)
     simp only at h5 h6
     rw [a1y h, J_a, J_c]
     omega
structure EF (e : List Nd) : Prop where
 len : 1 ≤ (n7 e).length
 j : (J (n7 e)).length ≤ 60 * e.length
 t : a2U (n7 e)
 sz : e.length ≤ 5000
theorem ef {e : List Nd} (h : B3 e = true) : EF e := by
 have H := b2h h
 exact ⟨H.len, by rw [← H.l]; exact J60 _ _ _ (Nat.le_refl _) H.emb H.v H.nm, b8X _ _ _ (Nat.le_refl _) H.emb H.v H.nm, by rw [← H.l]; exact H.s⟩
theorem c5l {e : List Nd} (h : B3 e = true) : b9u T.rf e = some (txt (n7 e)) := by
 have H := b2h h
 have := b4k (a7a h) H.emb H.v H.s H.o (by rw [← H.l]; have := H.s; omega)
 rw [H.nm, if_pos rfl] at this; exact this
theorem N3 {e : List Nd} (h : B3 e = true) : a9w T.rf e = some (txt (n7 e)) := by
 have H := b2h h
 have := a9Z (a7a h) H.emb H.v H.s H.o (by rw [← H.l]; have := H.s; omega)
 rw [H.nm, if_pos rfl] at this; exact this
def sg (l : List Str) : List (List Str) := l.map fun s => [s]
def wrG (G : List (List Str)) : List s4 := G.map fun g => mkT (txt g)
theorem F7 (l : List Str) : (sg l).flatten = l := by induction l with
 | nil => rfl
 | cons x l ih => simp only [sg, List.map_cons, List.flatten_cons] at ih ⊢; rw [ih]; rfl
theorem b3U (s : Str) : txt [s] = s := by rw [y0, a2T, List.append_nil]
theorem d2u (l : List Str) : wrG (sg l) = l.map mkT := by
 simp only [wrG, sg, List.map_map]
 apply List.map_congr_left
 intro s _
 simp only [Function.comp, b3U]
theorem D0 (a b : List (List Str)) : wrG (a ++ b) = wrG a ++ wrG b := by simp [wrG]
theorem a1C (a : List (List Str)) : (wrG a).length = a.length := by simp [wrG]
def Full (G : List (List Str)) : Prop := ∀ g ∈ G, 1 ≤ g.length
theorem Full.app {a b : List (List Str)} (h : Full a) (k : Full b) : Full (a ++ b) := fun g hg => (List.mem_append.1 hg).elim (h g) (k g)
theorem Full.sg (l : List Str) : Full (sg l) := fun g hg => by obtain ⟨s, _, rfl⟩ := List.mem_map.1 hg; simp
theorem b0Q : ∀ {G : List (List Str)}, Full G → O5 (wrG G) = J G.flatten
 | [], _ => rfl
 | g :: G, h => by
   have hg := h g (by simp)
   rw [wrG, List.map_cons, O5]
   rw [show G.map (fun g => mkT (txt g)) = wrG G from rfl, b0Q fun x hx => h x (List.mem_cons_of_mem _ hx), List.flatten_cons, a0G, T8 hg]
   simp [mkT]
theorem b6U : ∀ {G : List (List Str)}, Full G → s5 (wrG G) = txt G.flatten
 | [], _ => rfl
 | g :: G, h => by
   have hg := h g (by simp)
   rw [wrG, List.map_cons, s5]
   rw [show G.map (fun g => mkT (txt g)) = wrG G from rfl, b0Q fun x hx => h x (List.mem_cons_of_mem _ hx), List.flatten_cons, b0i hg]
   simp [mkT]
def X0 (s : Str) : List (List (List Str)) → List (List Str)
 | [] => []
 | x :: r => [s] :: (x ++ X0 s r)
def a0D (s : Str) : List (List (List Str)) → List (List Str)
 | [] => []
 | x :: r => x ++ X0 s r
def a7M (s : Str) : List (List Str) → List Str
 | [] => []
 | x :: r => s :: (x ++ a7M s r)
def P0 (s : Str) : List (List Str) → List Str
 | [] => []
 | x :: r => x ++ a7M s r
theorem a6J (s : Str) : ∀ l : List (List (List Str)), (X0 s l).flatten = a7M s (l.map List.flatten)
 | [] => rfl
 | x :: r => by rw [X0, List.flatten_cons, List.flatten_append, a6J s r]; rfl
theorem a8I (s : Str) : ∀ l : List (List (List Str)), (a0D s l).flatten = P0 s (l.map List.flatten)
 | [] => rfl
 | x :: r => by rw [a0D, List.flatten_append, a6J s r]; rfl
theorem a6K (s : Str) : ∀ l : List (List (List Str)), (∀ G ∈ l, Full G) → Full (X0 s l)
 | [], _ => fun g hg => by cases hg
 | x :: r, h => fun g hg => by
   rw [X0, List.mem_cons] at hg
   rcases hg with rfl | hg
   · simp
   · exact Full.app (h x (by simp)) (a6K s r fun G hG => h G (List.mem_cons_of_mem _ hG)) g hg
theorem a4q (s : Str) : ∀ l : List (List (List Str)), (∀ G ∈ l, Full G) → Full (a0D s l)
 | [], _ => fun g hg => by cases hg
 | x :: r, h => Full.app (h x (by simp)) (a6K s r fun G hG => h G (List.mem_cons_of_mem _ hG))
def tyX (t : Int) : Str := if t = 1 then [98, 111, 111, 108] else [105, 110, 116]
def wPm (p : Pm) : List Str := [p.1, [58], tyX p.2]
def gPm (p : Pm) : List (List Str) := sg (wPm p)
def gIn (l : List Pm) : List (List Str) := sg [[40]] ++ (a0D [59] (l.map gPm) ++ sg [[41]])
def wIn (l : List Pm) : List Str := [40] :: (P0 [59] (l.map wPm) ++ [[41]])
noncomputable def gE (e : List Nd) : List (List Str) := [n7 e]
noncomputable def gIt (x : Itm) : List (List Str) :=
 if x.1 = 1 then sg [[97, 115, 115, 117, 109, 101]] ++ (gE x.2.2.2.1 ++ sg [[59]]) else
 if x.1 = 2 then sg [[103, 117, 97, 114, 97, 110, 116, 101, 101]] ++ (gE x.2.2.2.1 ++ sg [[59]]) else
 if x.1 = 3 then sg [[103, 104, 111, 115, 116]] ++ (gPm (x.2.1, x.2.2.1) ++ (sg [[61]] ++ (gE x.2.2.2.1 ++ sg [[59]]))) else
 if x.1 = 4 then sg [[109, 111, 100, 101], x.2.1, [114, 101, 113, 117, 105, 114, 101]] ++ (gE x.2.2.2.1 ++ (sg [[101, 110, 115, 117, 114, 101]] ++ (gE x.2.2.2.2.1 ++ sg [[59]]))) else
 sg [[105, 109, 112, 111, 114, 116], x.2.1, [40]] ++ (a0D [44] (x.2.2.2.2.2.map gE) ++ (sg [[41]] ++ sg [[59]]))
noncomputable def wIt (x : Itm) : List Str :=
 if x.1 = 1 then [97, 115, 115, 117, 109, 101] :: (n7 x.2.2.2.1 ++ [[59]]) else
 if x.1 = 2 then [103, 117, 97, 114, 97, 110, 116, 101, 101] :: (n7 x.2.2.2.1 ++ [[59]]) else
 if x.1 = 3 then [103, 104, 111, 115, 116] :: (wPm (x.2.1, x.2.2.1) ++ ([61] :: (n7 x.2.2.2.1 ++ [[59]]))) else
 if x.1 = 4 then [109, 111, 100, 101] :: x.2.1 :: [114, 101, 113, 117, 105, 114, 101] :: (n7 x.2.2.2.1 ++ ([101, 110, 115, 117, 114, 101] :: (n7 x.2.2.2.2.1 ++ [[59]]))) else
 [105, 109, 112, 111, 114, 116] :: x.2.1 :: [40] :: (P0 [44] (x.2.2.2.2.2.map n7) ++ [[41], [59]])
noncomputable def gEq (q : Eqn) : List (List Str) := sg [q.1, [61]] ++ (gE q.2 ++ sg [[59]])
noncomputable def wEq (q : Eqn) : List Str := q.1 :: [61] :: (n7 q.2 ++ [[59]])
noncomputable def W3 (l : List Itm) : List (List Str) := (l.map gIt).flatten
noncomputable def a2N (l : List Itm) : List Str := (l.map wIt).flatten
noncomputable def W0 (l : List Eqn) : List (List Str) := (l.map gEq).flatten
noncomputable def a7K (l : List Eqn) : List Str := (l.map wEq).flatten
def L7 (l : List Pm) : List (List Str) := if l.length > 0 then sg [[118, 97, 114]] ++ (a0D [59] (l.map gPm) ++ sg [[59]]) else []
def Y9 (l : List Pm) : List Str := if l.length > 0 then [118, 97, 114] :: (P0 [59] (l.map wPm) ++ [[59]]) else []
noncomputable def gUn (u : Unt) : List (List Str) :=
 if u.1 = true then sg [[99, 111, 110, 116, 114, 97, 99, 116], u.2.1] ++ (gIn u.2.2.1 ++ (W3 u.2.2.2.2.2.2.2 ++ sg [[101, 110, 100]])) else
 sg [[110, 111, 100, 101], u.2.1] ++ (gIn u.2.2.1 ++ (sg [[114, 101, 116, 117, 114, 110, 115]] ++ (gIn [(u.2.2.2.1, u.2.2.2.2.1)] ++ ((if u.2.2.2.2.2.2.2.length > 0 then sg [[99, 111, 110, 116, 114, 97, 99, 116]] ++ (W3 u.2.2.2.2.2.2.2 ++ sg [[101, 110, 100]]) else []) ++ (L7 u.2.2.2.2.2.1 ++ (sg [[108, 101, 116]] ++ (W0 u.2.2.2.2.2.2.1 ++ sg [[116, 101, 108]])))))))
noncomputable def wUn (u : Unt) : List Str :=
 if u.1 = true then [99, 111, 110, 116, 114, 97, 99, 116] :: u.2.1 :: (wIn u.2.2.1 ++ (a2N u.2.2.2.2.2.2.2 ++ [[101, 110, 100]])) else
 [110, 111, 100, 101] :: u.2.1 :: (wIn u.2.2.1 ++ ([114, 101, 116, 117, 114, 110, 115] :: (wIn [(u.2.2.2.1, u.2.2.2.2.1)] ++ ((if u.2.2.2.2.2.2.2.length > 0 then [99, 111, 110, 116, 114, 97, 99, 116] :: (a2N u.2.2.2.2.2.2.2 ++ [[101, 110, 100]]) else []) ++ (Y9 u.2.2.2.2.2.1 ++ ([108, 101, 116] :: (a7K u.2.2.2.2.2.2.1 ++ [[116, 101, 108]])))))))
noncomputable def a6G (l : List Unt) : List (List Str) := (l.map gUn).flatten
noncomputable def a2O (l : List Unt) : List Str := (l.map wUn).flatten
def b0l (mn bk : Str) : List Str := [109, 97, 105, 110] :: mn :: [59] :: (if bk = [] then [] else [[102, 97, 108, 108, 98, 97, 99, 107], bk, [59]])
noncomputable def gPg (p : Prg) : List (List Str) := a6G p.1 ++ sg (b0l p.2.1 p.2.2)
noncomputable def wPg (p : Prg) : List Str := a2O p.1 ++ b0l p.2.1 p.2.2
theorem b6N (p : Pm) : (gPm p).flatten = wPm p := F7 _
theorem a8H (s : Str) (l : List Pm) : (a0D s (l.map gPm)).flatten = P0 s (l.map wPm) := by
 rw [a8I, List.map_map]; rfl
theorem a6D (l : List Pm) : (gIn l).flatten = wIn l := by
 rw [gIn, List.flatten_append, List.flatten_append, F7, F7, a8H]; rfl
theorem a1I (e : List Nd) : (gE e).flatten = n7 e := by rw [gE, List.flatten_cons, List.flatten_nil, List.append_nil]
theorem b6K (x : Itm) : (gIt x).flatten = wIt x := by
 unfold gIt wIt
 split
 · simp only [List.flatten_append, F7, a1I]; rfl
 split
 · simp only [List.flatten_append, F7, a1I]; rfl
 split
 · simp only [List.flatten_append, F7, a1I, b6N]; rfl
 split
 · simp only [List.flatten_append, F7, a1I]; rfl
 · have : (a0D [44] (x.2.2.2.2.2.map gE)).flatten = P0 [44] (x.2.2.2.2.2.map n7) := by
    rw [a8I, List.map_map]; congr 1
    apply List.map_congr_left; intro p _; exact a1I p
   simp only [List.flatten_append, F7, this]; rfl
theorem a3m {α : Type} {g : α → List (List Str)} {f : α → List Str} (h : ∀ x, (g x).flatten = f x) : ∀ l : List α, ((l.map g).flatten).flatten = (l.map f).flatten
 | [] => rfl
 | x :: l => by rw [List.map_cons, List.flatten_cons, List.flatten_append, h, a3m h l]; rfl
theorem a4p (l : List Itm) : (W3 l).flatten = a2N l := a3m b6K l
theorem b6J (q : Eqn) : (gEq q).flatten = wEq q := by simp only [gEq, List.flatten_append, F7, a1I]; rfl
theorem a8G (l : List Eqn) : (W0 l).flatten = a7K l := a3m b6J l
theorem a6H (l : List Pm) : (L7 l).flatten = Y9 l := by
 unfold L7 Y9
 split
 · simp only [List.flatten_append, F7, a8H]; rfl
 · rfl
theorem b6O (u : Unt) : (gUn u).flatten = wUn u := by
 unfold gUn wUn
 split
 · simp only [List.flatten_append, F7, a6D, a4p]; rfl
 · by_cases h : u.2.2.2.2.2.2.2.length > 0
   · simp only [if_pos h, List.flatten_append, F7, a6D, a4p, a6H, a8G]; rfl
   · simp only [if_neg h, List.flatten_append, F7, a6D, a4p, a6H, a8G]; rfl
theorem b4Q (l : List Unt) : (a6G l).flatten = a2O l := a3m b6O l
theorem b6M (p : Prg) : (gPg p).flatten = wPg p := by rw [gPg, List.flatten_append, b4Q, F7]; rfl
theorem a8S : ∀ (suf pre : List Str) (out : List s4), out.length + suf.length ≤ 100000000000 → (pre ++ suf).length ≤ 1000 →
  k93 T.rb out (pre ++ suf) (((pre ++ suf).length : Nat) : Int) (pre.length : Nat) = some (out ++ suf.map mkT)
 | [], pre, out, _, _ => d0L (by simp only [b93, l8, o6, cond_false, List.map_nil, List.append_nil])
 | x :: suf, pre, out, h, h2 => d0L (by
   simp only [length_cons] at h
   have ih := a8S suf (pre ++ [x]) (out ++ [mkT x]) (by simp; omega) (by simpa using h2)
   simp only [List.append_assoc, List.singleton_append] at ih
   simp only [b93, j6, e8, e9, cond_true, bind_some, a6 (show out.length + 1 ≤ 274877906944 by omega), Bool.and_true, j7 pre x (by simp at h2; omega)]
   exact ih)
theorem m6 {out : List s4} {l : List Str} (h : out.length + l.length ≤ 100000000000) (h2 : l.length ≤ 1000) : E0 T.rf out l = some (out ++ wrG (sg l)) := d0Z (by
 have := a8S l [] out h (by simpa using h2)
 simp only [List.nil_append, length_nil] at this
 rw [show ((0 : Nat) : Int) = (0 : Int) from rfl] at this
 simp only [c0N, this, bind_some, d2u])
theorem a8R {out : List s4} (p : Pm) (h : out.length ≤ 10000000000) : b4D T.rf out p = some (out ++ wrG (gPm p)) := d1c (by
 have e : wrG (gPm p) = wrG (sg [p.1, [58]]) ++ wrG (sg [tyX p.2]) := by rw [← D0]; rfl
 simp only [c0Q, m6 (out := out) (l := [p.1, [58]]) (by simp only [length_cons, length_nil]; omega) (by simp), bind_some, e]
 by_cases ht : p.2 = 1
 · simp only [bt ht, cond_true, tyX, if_pos ht, m6 (out := out ++ wrG (sg [p.1, [58]])) (l := [[98, 111, 111, 108]]) (by simp [a1C, sg]; omega) (by simp), bind_some, List.append_assoc]
 · simp only [bf ht, cond_false, tyX, if_neg ht, m6 (out := out ++ wrG (sg [p.1, [58]])) (l := [[105, 110, 116]]) (by simp [a1C, sg]; omega) (by simp), bind_some, List.append_assoc])
theorem S4 {out : List s4} {e : List Nd} (he : B3 e = true) (h : out.length ≤ 10000000000) : a6j T.rf out e = some (out ++ wrG (gE e)) := d1e (by
 have e1 : wrG (sg [txt (n7 e)]) = wrG (gE e) := by simp [wrG, sg, gE, b3U]
 simp only [c0R, c5l he, bind_some, m6 (out := out) (l := [txt (n7 e)]) (by simp only [length_cons, length_nil]; omega) (by simp), e1])
theorem a6Y {α : Type} {g : α → List (List Str)} {s : Str} {k : List s4 → Str → List α → Int → Int → Option (List s4)} {one : List s4 → α → Option (List s4)} (B : Nat)
  (hk : ∀ (out : List s4) (pre : List α) (x : α) (suf : List α) (N : Nat) (y : List s4), N = (pre ++ x :: suf).length → N ≤ 1000000 → (if 0 < pre.length then (one (out ++ wrG (sg [s])) x).bind fun o => k o s (pre ++ x :: suf) ((N : Nat) : Int) (((pre ++ [x]).length : Nat) : Int) else (one out x).bind fun o => k o s (pre ++ x :: suf) ((N : Nat) : Int) (((pre ++ [x]).length : Nat) : Int)) = some y → out.length ≤ 10000000000 → k out s (pre ++ x :: suf) ((N : Nat) : Int) ((pre.length : Nat) : Int) = some y)
  (h0 : ∀ (out : List s4) (l : List α), k out s l ((l.length : Nat) : Int) ((l.length : Nat) : Int) = some out) (N : Nat) (hN : N ≤ 1000000) :
  ∀ (suf pre : List α) (out : List s4), N = (pre ++ suf).length → (∀ x ∈ suf, (g x).length ≤ B ∧ ∀ out : List s4, out.length ≤ 10000000000 → one out x = some (out ++ wrG (g x))) → out.length + suf.length * (B + 1) ≤ 1000000000 →
  k out s (pre ++ suf) ((N : Nat) : Int) ((pre.length : Nat) : Int) = some (out ++ wrG (if 0 < pre.length then X0 s (suf.map g) else a0D s (suf.map g)))
 | [], pre, out, h, _, _ => by
   have := h0 out pre
   simp only [List.append_nil] at h ⊢
   rw [h, this]
   split <;> simp [X0, a0D, wrG]
 | x :: suf, pre, out, h, hx, hl => by
   obtain ⟨hb, h1⟩ := hx x (by simp)
   have hmul : (suf.length + 1) * (B + 1) = suf.length * (B + 1) + (B + 1) := Nat.succ_mul _ _
   simp only [length_cons] at hl
   refine hk out pre x suf N _ h hN ?_ (by omega)
   have ih : ∀ out' : List s4, out'.length ≤ out.length + B + 1 → k out' s (pre ++ x :: suf) ((N : Nat) : Int) (((pre ++ [x]).length : Nat) : Int) = some (out' ++ wrG (X0 s (suf.map g))) := fun out' ho => by
    have := a6Y B hk h0 N hN suf (pre ++ [x]) out' (by simpa using h) (fun y hy => hx y (List.mem_cons_of_mem _ hy)) (by omega)
    rw [if_pos (by simp)] at this
    simpa using this
   by_cases hp : 0 < pre.length
   · rw [if_pos hp, if_pos hp, h1 _ (by simp [a1C, sg]; omega), bind_some, ih _ (by simp [a1C, sg]; omega)]
     simp [X0, wrG, sg]
   · rw [if_neg hp, if_neg hp, h1 _ (by omega), bind_some, ih _ (by simp [a1C]; omega)]
     simp [a0D, wrG]
theorem a8L {out : List s4} {l : List Pm} (s : Str) (hl : l.length ≤ 1000000) (h : out.length + l.length * (3 + 1) ≤ 1000000000) : b9t T.rf out l s = some (out ++ wrG (a0D s (l.map gPm))) := d1b (by
 have := a6Y (g := gPm) (s := s) (k := k95 T.rb) (one := b4D T.rf) 3 (fun out pre x suf N y hN hN2 hy ho => d0M (by
  have hp : pre.length < 4611686018427387904 := by subst hN; simp at hN2; omega
  simp only [b95, Q2 pre x suf hN, e8, e9, cond_true, bind_some, j7 pre x hp]
  by_cases hp0 : 0 < pre.length
  · rw [if_pos hp0] at hy
    rw [dt (show ((pre.length : Nat) : Int) > 0 by omega), cond_true, m6 (out := out) (l := [s]) (by simp only [length_cons, length_nil]; omega) (by simp), bind_some]
    exact hy
  · rw [if_neg hp0] at hy
    rw [df (show ¬ ((pre.length : Nat) : Int) > 0 by omega), cond_false]
    exact hy)) (fun out l => d0M (by simp only [b95, o6, cond_false])) l.length hl l [] out rfl (fun x hx => ⟨by simp [gPm, sg, wPm], fun o ho => a8R x ho⟩) h
 simp only [List.nil_append, length_nil, Nat.lt_irrefl, if_false] at this
 rw [show ((0 : Nat) : Int) = (0 : Int) from rfl] at this
 simp only [c0P, this, bind_some])
theorem b5f {out : List s4} {l : List (List Nd)} (s : Str) (he : ∀ x ∈ l, B3 x = true) (hl : l.length ≤ 1000000) (h : out.length + l.length * (1 + 1) ≤ 1000000000) : c5I T.rf out l s = some (out ++ wrG (a0D s (l.map gE))) := d1o (by
 have := a6Y (g := gE) (s := s) (k := b6V T.rb) (one := a6j T.rf) 1 (fun out pre x suf N y hN hN2 hy ho => c4e (by
  have hp : pre.length < 4611686018427387904 := by subst hN; simp at hN2; omega
  simp only [b5R, Q2 pre x suf hN, e8, e9, cond_true, bind_some, j7 pre x hp]
  by_cases hp0 : 0 < pre.length
  · rw [if_pos hp0] at hy
    rw [dt (show ((pre.length : Nat) : Int) > 0 by omega), cond_true, m6 (out := out) (l := [s]) (by simp only [length_cons, length_nil]; omega) (by simp), bind_some]
    exact hy
  · rw [if_neg hp0] at hy
    rw [df (show ¬ ((pre.length : Nat) : Int) > 0 by omega), cond_false]
    exact hy)) (fun out l => c4e (by simp only [b5R, o6, cond_false])) l.length hl l [] out rfl (fun x hx => ⟨by simp [gE], fun o ho => S4 (he x hx) ho⟩) h
 simp only [List.nil_append, length_nil, Nat.lt_irrefl, if_false] at this
 rw [show ((0 : Nat) : Int) = (0 : Int) from rfl] at this
 simp only [c0Y, this, bind_some])
end Go.Proofs.YtlobhcgbmpcdlaaGreatDoor.R
