import Derived.Test.YtlobhcgbmpcdlaaGreatDoorLstB
import Derived.Test.YtlobhcgbmpcdlaaGreatDoorShwZ
open Option (bind_some)
open List (length_cons length_nil)
open Bool (and_eq_true)
namespace Go.Proofs.YtlobhcgbmpcdlaaGreatDoor.R
open Go Go.Bm Go.Proofs
set_option linter.unusedVariables false
set_option linter.unusedSimpArgs false
set_option maxRecDepth 4000
noncomputable def etr (e : List Nd) : Tr := by
 classical exact if h : M1 e = true then Classical.choose (a5I h) else .mk (1, -1, -1, -1, 0, []) []
structure ETr (e : List Nd) (t : Tr) : Prop where
 emb : Emb e (e.length - 1) t
 v : Valid t
 o : t.op ≠ 28
 s : t.size ≤ 5000
 l : t.size = e.length
 n : norm e = flat t 0
 m : M1 (flat t 0) = true
 d : dep t ≤ 40
 nm : o5 t = true
theorem a8n {e : List Nd} (h : D3 e = true) : M1 e = true := by rw [D3, and_eq_true] at h; exact h.1
theorem a5s {e : List Nd} (h : D3 e = true) : ETr e (etr e) := by
 have hm := a8n h
 obtain ⟨k1, k2, k3, k4, k5, k6, k7, k8⟩ := Classical.choose_spec (a5I hm)
 have he : etr e = Classical.choose (a5I hm) := by unfold etr; rw [dif_pos hm]
 rw [← he] at k1 k2 k3 k4 k5 k6 k7 k8
 obtain ⟨t, q1, q2, q3, q4, q5, q6, q7⟩ := a8o hm
 have := a6N _ _ _ q1 k1
 subst this
 rw [D3, and_eq_true] at h
 exact ⟨k1, k2, k3, k4, k5, k6, k7, q6, by rw [← a3Q hm k1]; exact h.2⟩
noncomputable def l6 (e : List Nd) : List Str := j8 (etr e)
theorem ETr.len {e : List Nd} {t : Tr} (h : ETr e t) : 1 ≤ (j8 t).length := (D0 t.size t _ (Nat.le_refl _) h.emb h.v).1
theorem ETr.one {e : List Nd} {t u : Tr} (h : ETr e t) (k : ETr e u) : t = u := a6N _ _ _ h.emb k.emb
theorem a5F {t : Tr} (hv : Valid t) (ho : t.op ≠ 28) (hs : t.size ≤ 5000) (hd : dep t ≤ 40) (hn : o5 t = true) : D3 (flat t 0) = true := by
 have hm : M1 (flat t 0) = true := by rw [b2D hv, dt hs, dt ho, dt hd]; rfl
 rw [D3, hm, Bool.true_and, a3Q hm (a4o hv)]; exact hn
theorem b7Z {t : Tr} (hv : Valid t) (ho : t.op ≠ 28) (hs : t.size ≤ 5000) (hd : dep t ≤ 40) (hn : o5 t = true) : etr (flat t 0) = t :=
 a6N _ _ _ (a5s (a5F hv ho hs hd hn)).emb (a4o hv)
theorem a3R {e : List Nd} (h : D3 e = true) : D3 (norm e) = true ∧ l6 (norm e) = l6 e ∧ norm (norm e) = norm e := by
 have H := a5s h
 refine ⟨by rw [H.n]; exact a5F H.v H.o H.s H.d H.nm, by rw [H.n, l6, l6, b7Z H.v H.o H.s H.d H.nm], (b2I (a8n h)).2.2.2⟩
theorem b6G {e : List Nd} (h : M1 e = false) : norm e = [] := by
 unfold norm b6Z
 rw [if_neg (by rw [h]; simp)]
theorem b8S : M1 [] = false := rfl
theorem T4 : norm [] = [] := b6G b8S
theorem J60 {e : List Nd} : ∀ (m : Nat) (t : Tr) (i : Nat), t.size ≤ m → Emb e i t → Valid t → o5 t = true → (J (j8 t)).length ≤ 60 * t.size := by
 intro m
 induction m with
 | zero => intro t i h; have := t.size_pos; omega
 | succ m ih =>
   intro t i hm ht hv hn
   cases shape ht hv with
   | leaf h hx hN hs =>
     rename_i op a b c nn nm
     obtain ⟨hnb, _⟩ := L2 hn
     have h1 := X3 nn
     have h2 := a9y nn
     have h3 : nm.length ≤ 40 := a2R hnb
     rw [X8 h, a3C, J_c, J_n]
     split
     · omega
     split <;> omega
   | call0 hx hN hs =>
     rename_i b c nn nm
     have h3 : nm.length ≤ 40 := a2R (L2 hn).1
     rw [R9, a3C, J_c, J_c, J_c, J_n]
     simp only [length_cons, length_nil]; omega
   | call1 hx hN hs hj ht1 hv1 ho =>
     rename_i b c nn nm j t1
     obtain ⟨hnb, hnl⟩ := L2 hn
     have h3 : nm.length ≤ 40 := a2R hnb
     rw [j7, j7, Bool.and_true] at hnl
     rw [P1] at hm ⊢
     have := ih _ _ (by omega) ht1 hv1 hnl
     rw [S0, J_c, J_c, J_a, J_c, J_n]
     simp only [length_cons, length_nil]; omega
   | arg1 hx hN hs hj ht1 hv1 ho =>
     obtain ⟨hnb, hnl⟩ := L2 hn
     rw [j7, j7, Bool.and_true] at hnl
     rw [P1] at hm ⊢
     have := ih _ _ (by omega) ht1 hv1 hnl
     rw [X6]; omega
   | arg2 hx hN hs hj ht1 hv1 ho hk hu hvu hou =>
     obtain ⟨hnb, hnl⟩ := L2 hn
     rw [j7, j7, j7, Bool.and_true, and_eq_true] at hnl
     rw [Q1] at hm ⊢
     have := ih _ _ (by omega) ht1 hv1 hnl.1
     have := ih _ _ (by omega) hu hvu hnl.2
     rw [X7, J_a, J_c]
     simp only [length_cons, length_nil]; omega
   | ite hx hN hs hj ht1 hv1 ho hk hu hvu hou hl hw hvw how =>
     obtain ⟨hnb, hnl⟩ := L2 hn
     rw [j7, j7, j7, j7, Bool.and_true, and_eq_true, and_eq_true] at hnl
     rw [b0x] at hm ⊢
     have := ih _ _ (by omega) ht1 hv1 hnl.1
     have := ih _ _ (by omega) hu hvu hnl.2.1
     have := ih _ _ (by omega) hw hvw hnl.2.2
     have h4 := a1m 26
     rw [a0T, J_c, J_a, J_c, J_a, J_c]
     simp only [length_cons, length_nil]; omega
   | un h hx hN hs hj ht1 hv1 ho =>
     rename_i op b c nn nm j t1
     obtain ⟨hnb, hnl⟩ := L2 hn
     rw [j7, j7, Bool.and_true] at hnl
     rw [P1] at hm ⊢
     have := ih _ _ (by omega) ht1 hv1 hnl
     have h4 := a1m op
     have h1 := X3 nn
     have h5 := b3z 9 (t1.op, j8 t1)
     simp only at h5
     rw [a3b h, J_c, J_a]
     split
     · rename_i h25
       have h6 : (opX op).length = 6 := by rw [h25]; rfl
       rw [J_c, J_n]; omega
     · rw [J_n]; omega
   | bin h hx hN hs hj ht1 hv1 ho hk hu hvu hou =>
     rename_i op c nn nm j k t1 u1
     obtain ⟨hnb, hnl⟩ := L2 hn
     rw [j7, j7, j7, Bool.and_true, and_eq_true] at hnl
     rw [Q1] at hm ⊢
     have := ih _ _ (by omega) ht1 hv1 hnl.1
     have := ih _ _ (by omega) hu hvu hnl.2
     have h4 := a1m op
     have h5 := b3z (a3r op) (t1.op, j8 t1)
     have h6 := b3z (a0w op) (u1.op, j8 u1)
     simp only at h5 h6
     rw [a0S h, J_a, J_c]
     omega
structure EF (e : List Nd) : Prop where
 len : 1 ≤ (l6 e).length
 j : (J (l6 e)).length ≤ 60 * e.length
 t : O1 (l6 e)
 sz : e.length ≤ 5000
theorem ef {e : List Nd} (h : D3 e = true) : EF e := by
 have H := a5s h
 exact ⟨H.len, by rw [← H.l]; exact J60 _ _ _ (Nat.le_refl _) H.emb H.v H.nm, b9V _ _ _ (Nat.le_refl _) H.emb H.v H.nm, by rw [← H.l]; exact H.s⟩
theorem c4s {e : List Nd} (h : D3 e = true) : c0E T.rf e = some (txt (l6 e)) := by
 have H := a5s h
 have := b5T (a8n h) H.emb H.v H.s H.o (by rw [← H.l]; have := H.s; omega)
 rw [H.nm, if_pos rfl] at this; exact this
def sg (l : List Str) : List (List Str) := l.map fun s => [s]
def wrG (G : List (List Str)) : List m7 := G.map fun g => mkT (txt g)
theorem J0 (l : List Str) : (sg l).flatten = l := by induction l with
 | nil => rfl
 | cons x l ih => simp only [sg, List.map_cons, List.flatten_cons] at ih ⊢; rw [ih]; rfl
theorem b5H (s : Str) : txt [s] = s := by rw [a4Z, c6G, List.append_nil]
theorem d3n (l : List Str) : wrG (sg l) = l.map mkT := by
 simp only [wrG, sg, List.map_map]
 apply List.map_congr_left
 intro s _
 simp only [Function.comp, b5H]
theorem F8 (a b : List (List Str)) : wrG (a ++ b) = wrG a ++ wrG b := by simp [wrG]
theorem a2C (a : List (List Str)) : (wrG a).length = a.length := by simp [wrG]
def Full (G : List (List Str)) : Prop := ∀ g ∈ G, 1 ≤ g.length
theorem Full.app {a b : List (List Str)} (h : Full a) (k : Full b) : Full (a ++ b) := fun g hg => (List.mem_append.1 hg).elim (h g) (k g)
theorem Full.sg (l : List Str) : Full (sg l) := fun g hg => by obtain ⟨s, _, rfl⟩ := List.mem_map.1 hg; simp
theorem b2v : ∀ {G : List (List Str)}, Full G → T3 (wrG G) = J G.flatten
 | [], _ => rfl
 | g :: G, h => by
   have hg := h g (by simp)
   rw [wrG, List.map_cons, T3]
   rw [show G.map (fun g => mkT (txt g)) = wrG G from rfl, b2v fun x hx => h x (List.mem_cons_of_mem _ hx), List.flatten_cons, c2j, c6H hg]
   simp [mkT]
theorem b8t : ∀ {G : List (List Str)}, Full G → C1 (wrG G) = txt G.flatten
 | [], _ => rfl
 | g :: G, h => by
   have hg := h g (by simp)
   rw [wrG, List.map_cons, C1]
   rw [show G.map (fun g => mkT (txt g)) = wrG G from rfl, b2v fun x hx => h x (List.mem_cons_of_mem _ hx), List.flatten_cons, c2a hg]
   simp [mkT]
def a0F (s : Str) : List (List (List Str)) → List (List Str)
 | [] => []
 | x :: r => [s] :: (x ++ a0F s r)
def a1G (s : Str) : List (List (List Str)) → List (List Str)
 | [] => []
 | x :: r => x ++ a0F s r
def a2E (s : Str) : List (List Str) → List Str
 | [] => []
 | x :: r => s :: (x ++ a2E s r)
def C7 (s : Str) : List (List Str) → List Str
 | [] => []
 | x :: r => x ++ a2E s r
theorem a7P (s : Str) : ∀ l : List (List (List Str)), (a0F s l).flatten = a2E s (l.map List.flatten)
 | [] => rfl
 | x :: r => by rw [a0F, List.flatten_cons, List.flatten_append, a7P s r]; rfl
theorem a9T (s : Str) : ∀ l : List (List (List Str)), (a1G s l).flatten = C7 s (l.map List.flatten)
 | [] => rfl
 | x :: r => by rw [a1G, List.flatten_append, a7P s r]; rfl
theorem a7Q (s : Str) : ∀ l : List (List (List Str)), (∀ G ∈ l, Full G) → Full (a0F s l)
 | [], _ => fun g hg => by cases hg
 | x :: r, h => fun g hg => by
   rw [a0F, List.mem_cons] at hg
   rcases hg with rfl | hg
   · simp
   · exact Full.app (h x (by simp)) (a7Q s r fun G hG => h G (List.mem_cons_of_mem _ hG)) g hg
theorem a5y (s : Str) : ∀ l : List (List (List Str)), (∀ G ∈ l, Full G) → Full (a1G s l)
 | [], _ => fun g hg => by cases hg
 | x :: r, h => Full.app (h x (by simp)) (a7Q s r fun G hG => h G (List.mem_cons_of_mem _ hG))
def tyX (t : Int) : Str := if t = 1 then [98, 111, 111, 108] else [105, 110, 116]
def wPm (p : Pm) : List Str := [p.1, [58], tyX p.2]
def gPm (p : Pm) : List (List Str) := sg (wPm p)
def gIn (l : List Pm) : List (List Str) := sg [[40]] ++ (a1G [59] (l.map gPm) ++ sg [[41]])
def wIn (l : List Pm) : List Str := [40] :: (C7 [59] (l.map wPm) ++ [[41]])
noncomputable def gE (e : List Nd) : List (List Str) := [l6 e]
noncomputable def gIt (x : Itm) : List (List Str) :=
 if x.1 = 1 then sg [[97, 115, 115, 117, 109, 101]] ++ (gE x.2.2.2.1 ++ sg [[59]]) else
 if x.1 = 2 then sg [[103, 117, 97, 114, 97, 110, 116, 101, 101]] ++ (gE x.2.2.2.1 ++ sg [[59]]) else
 if x.1 = 3 then sg [[103, 104, 111, 115, 116]] ++ (gPm (x.2.1, x.2.2.1) ++ (sg [[61]] ++ (gE x.2.2.2.1 ++ sg [[59]]))) else
 if x.1 = 4 then sg [[109, 111, 100, 101], x.2.1, [114, 101, 113, 117, 105, 114, 101]] ++ (gE x.2.2.2.1 ++ (sg [[101, 110, 115, 117, 114, 101]] ++ (gE x.2.2.2.2.1 ++ sg [[59]]))) else
 sg [[105, 109, 112, 111, 114, 116], x.2.1, [40]] ++ (a1G [44] (x.2.2.2.2.2.map gE) ++ (sg [[41]] ++ sg [[59]]))
noncomputable def wIt (x : Itm) : List Str :=
 if x.1 = 1 then [97, 115, 115, 117, 109, 101] :: (l6 x.2.2.2.1 ++ [[59]]) else
 if x.1 = 2 then [103, 117, 97, 114, 97, 110, 116, 101, 101] :: (l6 x.2.2.2.1 ++ [[59]]) else
 if x.1 = 3 then [103, 104, 111, 115, 116] :: (wPm (x.2.1, x.2.2.1) ++ ([61] :: (l6 x.2.2.2.1 ++ [[59]]))) else
 if x.1 = 4 then [109, 111, 100, 101] :: x.2.1 :: [114, 101, 113, 117, 105, 114, 101] :: (l6 x.2.2.2.1 ++ ([101, 110, 115, 117, 114, 101] :: (l6 x.2.2.2.2.1 ++ [[59]]))) else
 [105, 109, 112, 111, 114, 116] :: x.2.1 :: [40] :: (C7 [44] (x.2.2.2.2.2.map l6) ++ [[41], [59]])
noncomputable def gEq (q : Eqn) : List (List Str) := sg [q.1, [61]] ++ (gE q.2 ++ sg [[59]])
noncomputable def wEq (q : Eqn) : List Str := q.1 :: [61] :: (l6 q.2 ++ [[59]])
noncomputable def a0t (l : List Itm) : List (List Str) := (l.map gIt).flatten
noncomputable def G0 (l : List Itm) : List Str := (l.map wIt).flatten
noncomputable def a0s (l : List Eqn) : List (List Str) := (l.map gEq).flatten
noncomputable def S1 (l : List Eqn) : List Str := (l.map wEq).flatten
def P8 (l : List Pm) : List (List Str) := if l.length > 0 then sg [[118, 97, 114]] ++ (a1G [59] (l.map gPm) ++ sg [[59]]) else []
def a0U (l : List Pm) : List Str := if l.length > 0 then [118, 97, 114] :: (C7 [59] (l.map wPm) ++ [[59]]) else []
noncomputable def gUn (u : Unt) : List (List Str) :=
 if u.1 = true then sg [[99, 111, 110, 116, 114, 97, 99, 116], u.2.1] ++ (gIn u.2.2.1 ++ (a0t u.2.2.2.2.2.2.2 ++ sg [[101, 110, 100]])) else
 sg [[110, 111, 100, 101], u.2.1] ++ (gIn u.2.2.1 ++ (sg [[114, 101, 116, 117, 114, 110, 115]] ++ (gIn [(u.2.2.2.1, u.2.2.2.2.1)] ++ ((if u.2.2.2.2.2.2.2.length > 0 then sg [[99, 111, 110, 116, 114, 97, 99, 116]] ++ (a0t u.2.2.2.2.2.2.2 ++ sg [[101, 110, 100]]) else []) ++ (P8 u.2.2.2.2.2.1 ++ (sg [[108, 101, 116]] ++ (a0s u.2.2.2.2.2.2.1 ++ sg [[116, 101, 108]])))))))
noncomputable def wUn (u : Unt) : List Str :=
 if u.1 = true then [99, 111, 110, 116, 114, 97, 99, 116] :: u.2.1 :: (wIn u.2.2.1 ++ (G0 u.2.2.2.2.2.2.2 ++ [[101, 110, 100]])) else
 [110, 111, 100, 101] :: u.2.1 :: (wIn u.2.2.1 ++ ([114, 101, 116, 117, 114, 110, 115] :: (wIn [(u.2.2.2.1, u.2.2.2.2.1)] ++ ((if u.2.2.2.2.2.2.2.length > 0 then [99, 111, 110, 116, 114, 97, 99, 116] :: (G0 u.2.2.2.2.2.2.2 ++ [[101, 110, 100]]) else []) ++ (a0U u.2.2.2.2.2.1 ++ ([108, 101, 116] :: (S1 u.2.2.2.2.2.2.1 ++ [[116, 101, 108]])))))))
noncomputable def a7M (l : List Unt) : List (List Str) := (l.map gUn).flatten
noncomputable def H2 (l : List Unt) : List Str := (l.map wUn).flatten
def b3v (mn bk : Str) : List Str := [109, 97, 105, 110] :: mn :: [59] :: (if bk = [] then [] else [[102, 97, 108, 108, 98, 97, 99, 107], bk, [59]])
noncomputable def gPg (p : Prg) : List (List Str) := a7M p.1 ++ sg (b3v p.2.1 p.2.2)
noncomputable def wPg (p : Prg) : List Str := H2 p.1 ++ b3v p.2.1 p.2.2
theorem b8k (p : Pm) : (gPm p).flatten = wPm p := J0 _
theorem a9S (s : Str) (l : List Pm) : (a1G s (l.map gPm)).flatten = C7 s (l.map wPm) := by
 rw [a9T, List.map_map]; rfl
theorem a7J (l : List Pm) : (gIn l).flatten = wIn l := by
 rw [gIn, List.flatten_append, List.flatten_append, J0, J0, a9S]; rfl
theorem a2L (e : List Nd) : (gE e).flatten = l6 e := by rw [gE, List.flatten_cons, List.flatten_nil, List.append_nil]
theorem b8h (x : Itm) : (gIt x).flatten = wIt x := by
 unfold gIt wIt
 split
 · simp only [List.flatten_append, J0, a2L]; rfl
 split
 · simp only [List.flatten_append, J0, a2L]; rfl
 split
 · simp only [List.flatten_append, J0, a2L, b8k]; rfl
 split
 · simp only [List.flatten_append, J0, a2L]; rfl
 · have : (a1G [44] (x.2.2.2.2.2.map gE)).flatten = C7 [44] (x.2.2.2.2.2.map l6) := by
    rw [a9T, List.map_map]; congr 1
    apply List.map_congr_left; intro p _; exact a2L p
   simp only [List.flatten_append, J0, this]; rfl
theorem a4p {α : Type} {g : α → List (List Str)} {f : α → List Str} (h : ∀ x, (g x).flatten = f x) : ∀ l : List α, ((l.map g).flatten).flatten = (l.map f).flatten
 | [] => rfl
 | x :: l => by rw [List.map_cons, List.flatten_cons, List.flatten_append, h, a4p h l]; rfl
theorem a5x (l : List Itm) : (a0t l).flatten = G0 l := a4p b8h l
theorem b8g (q : Eqn) : (gEq q).flatten = wEq q := by simp only [gEq, List.flatten_append, J0, a2L]; rfl
theorem a9R (l : List Eqn) : (a0s l).flatten = S1 l := a4p b8g l
theorem a7N (l : List Pm) : (P8 l).flatten = a0U l := by
 unfold P8 a0U
 split
 · simp only [List.flatten_append, J0, a9S]; rfl
 · rfl
theorem b8l (u : Unt) : (gUn u).flatten = wUn u := by
 unfold gUn wUn
 split
 · simp only [List.flatten_append, J0, a7J, a5x]; rfl
 · by_cases h : u.2.2.2.2.2.2.2.length > 0
   · simp only [if_pos h, List.flatten_append, J0, a7J, a5x, a7N, a9R]; rfl
   · simp only [if_neg h, List.flatten_append, J0, a7J, a5x, a7N, a9R]; rfl
theorem b6q (l : List Unt) : (a7M l).flatten = H2 l := a4p b8l l
theorem b8j (p : Prg) : (gPg p).flatten = wPg p := by rw [gPg, List.flatten_append, b6q, J0]; rfl
theorem b0i : ∀ (suf pre : List Str) (out : List m7), out.length + suf.length ≤ 100000000000 → (pre ++ suf).length ≤ 1000 →
  k93 T.rb out (pre ++ suf) (((pre ++ suf).length : Nat) : Int) (pre.length : Nat) = some (out ++ suf.map mkT)
 | [], pre, out, _, _ => d1T (by simp only [b93, E4, D7, cond_false, List.map_nil, List.append_nil])
 | x :: suf, pre, out, h, h2 => d1T (by
   simp only [length_cons] at h
   have ih := b0i suf (pre ++ [x]) (out ++ [mkT x]) (by simp; omega) (by simpa using h2)
   simp only [List.append_assoc, List.singleton_append] at ih
   simp only [b93, s4, m5, m6, cond_true, bind_some, m8 (show out.length + 1 ≤ 274877906944 by omega), Bool.and_true, s3 pre x (by simp at h2; omega)]
   exact ih)
theorem o9 {out : List m7} {l : List Str} (h : out.length + l.length ≤ 100000000000) (h2 : l.length ≤ 1000) : H0 T.rf out l = some (out ++ wrG (sg l)) := d2h (by
 have := b0i l [] out h (by simpa using h2)
 simp only [List.nil_append, length_nil] at this
 rw [show ((0 : Nat) : Int) = (0 : Int) from rfl] at this
 simp only [c1B, this, bind_some, d3n])
theorem b0h {out : List m7} (p : Pm) (h : out.length ≤ 10000000000) : b6e T.rf out p = some (out ++ wrG (gPm p)) := d2k (by
 have e : wrG (gPm p) = wrG (sg [p.1, [58]]) ++ wrG (sg [tyX p.2]) := by rw [← F8]; rfl
 simp only [c1E, o9 (out := out) (l := [p.1, [58]]) (by simp only [length_cons, length_nil]; omega) (by simp), bind_some, e]
 by_cases ht : p.2 = 1
 · simp only [bt ht, cond_true, tyX, if_pos ht, o9 (out := out ++ wrG (sg [p.1, [58]])) (l := [[98, 111, 111, 108]]) (by simp [a2C, sg]; omega) (by simp), bind_some, List.append_assoc]
 · simp only [bf ht, cond_false, tyX, if_neg ht, o9 (out := out ++ wrG (sg [p.1, [58]])) (l := [[105, 110, 116]]) (by simp [a2C, sg]; omega) (by simp), bind_some, List.append_assoc])
theorem Z4 {out : List m7} {e : List Nd} (he : D3 e = true) (h : out.length ≤ 10000000000) : a7p T.rf out e = some (out ++ wrG (gE e)) := d2m (by
 have e1 : wrG (sg [txt (l6 e)]) = wrG (gE e) := by simp [wrG, sg, gE, b5H]
 simp only [c1F, c4s he, bind_some, o9 (out := out) (l := [txt (l6 e)]) (by simp only [length_cons, length_nil]; omega) (by simp), e1])
theorem a8l {α : Type} {g : α → List (List Str)} {s : Str} {k : List m7 → Str → List α → Int → Int → Option (List m7)} {one : List m7 → α → Option (List m7)} (B : Nat)
  (hk : ∀ (out : List m7) (pre : List α) (x : α) (suf : List α) (N : Nat) (y : List m7), N = (pre ++ x :: suf).length → N ≤ 1000000 → (if 0 < pre.length then (one (out ++ wrG (sg [s])) x).bind fun o => k o s (pre ++ x :: suf) ((N : Nat) : Int) (((pre ++ [x]).length : Nat) : Int) else (one out x).bind fun o => k o s (pre ++ x :: suf) ((N : Nat) : Int) (((pre ++ [x]).length : Nat) : Int)) = some y → out.length ≤ 10000000000 → k out s (pre ++ x :: suf) ((N : Nat) : Int) ((pre.length : Nat) : Int) = some y)
  (h0 : ∀ (out : List m7) (l : List α), k out s l ((l.length : Nat) : Int) ((l.length : Nat) : Int) = some out) (N : Nat) (hN : N ≤ 1000000) :
  ∀ (suf pre : List α) (out : List m7), N = (pre ++ suf).length → (∀ x ∈ suf, (g x).length ≤ B ∧ ∀ out : List m7, out.length ≤ 10000000000 → one out x = some (out ++ wrG (g x))) → out.length + suf.length * (B + 1) ≤ 1000000000 →
  k out s (pre ++ suf) ((N : Nat) : Int) ((pre.length : Nat) : Int) = some (out ++ wrG (if 0 < pre.length then a0F s (suf.map g) else a1G s (suf.map g)))
 | [], pre, out, h, _, _ => by
   have := h0 out pre
   simp only [List.append_nil] at h ⊢
   rw [h, this]
   split <;> simp [a0F, a1G, wrG]
 | x :: suf, pre, out, h, hx, hl => by
   obtain ⟨hb, h1⟩ := hx x (by simp)
   have hmul : (suf.length + 1) * (B + 1) = suf.length * (B + 1) + (B + 1) := Nat.succ_mul _ _
   simp only [length_cons] at hl
   refine hk out pre x suf N _ h hN ?_ (by omega)
   have ih : ∀ out' : List m7, out'.length ≤ out.length + B + 1 → k out' s (pre ++ x :: suf) ((N : Nat) : Int) (((pre ++ [x]).length : Nat) : Int) = some (out' ++ wrG (a0F s (suf.map g))) := fun out' ho => by
    have := a8l B hk h0 N hN suf (pre ++ [x]) out' (by simpa using h) (fun y hy => hx y (List.mem_cons_of_mem _ hy)) (by omega)
    rw [if_pos (by simp)] at this
    simpa using this
   by_cases hp : 0 < pre.length
   · rw [if_pos hp, if_pos hp, h1 _ (by simp [a2C, sg]; omega), bind_some, ih _ (by simp [a2C, sg]; omega)]
     simp [a0F, wrG, sg]
   · rw [if_neg hp, if_neg hp, h1 _ (by omega), bind_some, ih _ (by simp [a2C]; omega)]
     simp [a1G, wrG]
theorem b0b {out : List m7} {l : List Pm} (s : Str) (hl : l.length ≤ 1000000) (h : out.length + l.length * (3 + 1) ≤ 1000000000) : c0D T.rf out l s = some (out ++ wrG (a1G s (l.map gPm))) := d2j (by
 have := a8l (g := gPm) (s := s) (k := k95 T.rb) (one := b6e T.rf) 3 (fun out pre x suf N y hN hN2 hy ho => d1U (by
  have hp : pre.length < 4611686018427387904 := by subst hN; simp at hN2; omega
  simp only [b95, a4B pre x suf hN, m5, m6, cond_true, bind_some, s3 pre x hp]
  by_cases hp0 : 0 < pre.length
  · rw [if_pos hp0] at hy
    rw [dt (show ((pre.length : Nat) : Int) > 0 by omega), cond_true, o9 (out := out) (l := [s]) (by simp only [length_cons, length_nil]; omega) (by simp), bind_some]
    exact hy
  · rw [if_neg hp0] at hy
    rw [df (show ¬ ((pre.length : Nat) : Int) > 0 by omega), cond_false]
    exact hy)) (fun out l => d1U (by simp only [b95, D7, cond_false])) l.length hl l [] out rfl (fun x hx => ⟨by simp [gPm, sg, wPm], fun o ho => b0h x ho⟩) h
 simp only [List.nil_append, length_nil, Nat.lt_irrefl, if_false] at this
 rw [show ((0 : Nat) : Int) = (0 : Int) from rfl] at this
 simp only [c1D, this, bind_some])
theorem b6D {out : List m7} {l : List (List Nd)} (s : Str) (he : ∀ x ∈ l, D3 x = true) (hl : l.length ≤ 1000000) (h : out.length + l.length * (1 + 1) ≤ 1000000000) : c5a T.rf out l s = some (out ++ wrG (a1G s (l.map gE))) := d2w (by
 have := a8l (g := gE) (s := s) (k := b8u T.rb) (one := a7p T.rf) 1 (fun out pre x suf N y hN hN2 hy ho => c3R (by
  have hp : pre.length < 4611686018427387904 := by subst hN; simp at hN2; omega
  simp only [b7A, a4B pre x suf hN, m5, m6, cond_true, bind_some, s3 pre x hp]
  by_cases hp0 : 0 < pre.length
  · rw [if_pos hp0] at hy
    rw [dt (show ((pre.length : Nat) : Int) > 0 by omega), cond_true, o9 (out := out) (l := [s]) (by simp only [length_cons, length_nil]; omega) (by simp), bind_some]
    exact hy
  · rw [if_neg hp0] at hy
    rw [df (show ¬ ((pre.length : Nat) : Int) > 0 by omega), cond_false]
    exact hy)) (fun out l => c3R (by simp only [b7A, D7, cond_false])) l.length hl l [] out rfl (fun x hx => ⟨by simp [gE], fun o ho => Z4 (he x hx) ho⟩) h
 simp only [List.nil_append, length_nil, Nat.lt_irrefl, if_false] at this
 rw [show ((0 : Nat) : Int) = (0 : Int) from rfl] at this
 simp only [c1M, this, bind_some])
end Go.Proofs.YtlobhcgbmpcdlaaGreatDoor.R
