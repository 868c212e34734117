import Derived.Test.YtlobhcgbmpcdlaaGreatDoorLstE
namespace Go.Proofs.YtlobhcgbmpcdlaaGreatDoor.R
open Go Go.Bm Go.Proofs
set_option linter.unusedVariables false
set_option linter.unusedSimpArgs false
set_option maxRecDepth 4000
theorem b2M {x : Itm} (h : I7 x = true) : I7 (P6 x) = true ∧ wIt (P6 x) = wIt x := by
 obtain ⟨kd, nm, ty, e, f, gs⟩ := x
 cases itF h with
 | ag k nm' ty' e' f' a =>
   simp only at k nm' ty' e' f' a
   subst nm'; subst ty'; subst f'; subst a
   have he := a3R e'
   rcases k with k | k
   · subst k
     exact ⟨by simp [I7, P6, he.1, T4], by simp [wIt, P6, he.2.1]⟩
   · subst k
     exact ⟨by simp [I7, P6, he.1, T4], by simp [wIt, P6, he.2.1]⟩
 | gh k nm' ty' e' f' a =>
   simp only at k nm' ty' e' f' a
   subst k; subst f'; subst a
   have he := a3R e'
   refine ⟨?_, by simp [wIt, P6, he.2.1]⟩
   rcases ty' with ty' | ty' <;> subst ty' <;> simp [I7, P6, he.1, T4, nm']
 | md k nm' ty' e' f' a =>
   simp only at k nm' ty' e' f' a
   subst k; subst ty'; subst a
   have he := a3R e'
   have hf := a3R f'
   exact ⟨by simp [I7, P6, he.1, hf.1, nm'], by simp [wIt, P6, he.2.1, hf.2.1]⟩
 | im k nm' ty' e' f' l a =>
   simp only at k nm' ty' e' f' l a
   subst k; subst ty'; subst e'; subst f'
   have h1 : ∀ y ∈ gs, D3 (norm y) = true := fun y hy => (a3R (a y hy)).1
   have h2 : (gs.map norm).map l6 = gs.map l6 := by
    rw [List.map_map]; apply List.map_congr_left; intro y hy; exact (a3R (a y hy)).2.1
   refine ⟨?_, by simp only [wIt, P6, h2]; rfl⟩
   simp [I7, P6, T4, nm', l]
   exact h1
theorem b2P {q : Eqn} (h : V8 q = true) : V8 (a4K q) = true ∧ wEq (a4K q) = wEq q := by
 obtain ⟨h1, h2⟩ := eqF h
 have := a3R h2
 exact ⟨by simp only [V8, a4K, h1, this.1]; rfl, by simp only [wEq, a4K, this.2.1]⟩
theorem a4C {α : Type} {f : α → α} {w : α → List Str} : ∀ l : List α, (∀ x ∈ l, w (f x) = w x) → ((l.map f).map w).flatten = (l.map w).flatten
 | [], _ => rfl
 | x :: l, h => by simp only [List.map_cons, List.flatten_cons, h x (by simp), a4C l fun y hy => h y (List.mem_cons_of_mem _ hy)]
theorem b2Q {u : Unt} (h : K5 u = true) : K5 (T9 u) = true ∧ wUn (T9 u) = wUn u := by
 have H := unF h
 have q1 : S1 (u.2.2.2.2.2.2.1.map a4K) = S1 u.2.2.2.2.2.2.1 := a4C _ fun x hx => (b2P (H.qb x hx)).2
 have x1 : G0 (u.2.2.2.2.2.2.2.map P6) = G0 u.2.2.2.2.2.2.2 := a4C _ fun x hx => (b2M (H.xb x hx)).2
 have q2 : (u.2.2.2.2.2.2.1.map a4K).all V8 = true := List.all_eq_true.2 fun y hy => by obtain ⟨z, hz, rfl⟩ := List.mem_map.1 hy; exact (b2P (H.qb z hz)).1
 have x2 : (u.2.2.2.2.2.2.2.map P6).all I7 = true := List.all_eq_true.2 fun y hy => by obtain ⟨z, hz, rfl⟩ := List.mem_map.1 hy; exact (b2M (H.xb z hz)).1
 have q3 : u.2.2.2.2.2.2.1.all V8 = true := List.all_eq_true.2 H.qb
 have x3 : u.2.2.2.2.2.2.2.all I7 = true := List.all_eq_true.2 H.xb
 refine ⟨?_, by simp only [wUn, T9, q1, x1, List.length_map]⟩
 have h' := h
 unfold K5 at h' ⊢
 simp only [Bool.and_eq_true, decide_eq_true_eq] at h' ⊢
 obtain ⟨h1, h2, h3, ⟨h4, _⟩, ⟨h6, _⟩, h8⟩ := h'
 refine ⟨h1, h2, h3, ⟨by show (u.2.2.2.2.2.2.1.map a4K).length ≤ 200; rw [List.length_map]; exact h4, q2⟩, ⟨by show (u.2.2.2.2.2.2.2.map P6).length ≤ 200; rw [List.length_map]; exact h6, x2⟩, ?_⟩
 cases hk : u.1 with
 | true =>
   obtain ⟨a, b, c, d⟩ := H.k hk
   simp [T9, hk, a, b, c, d]
 | false => simp [T9, hk, H.o hk]
theorem b9k {p : Prg} (h : a1o p = true) : a1o (b4k p) = true ∧ wPg (b4k p) = wPg p := by
 have H := pgF h
 have u1 : H2 (p.1.map T9) = H2 p.1 := a4C _ fun x hx => (b2Q (H.u x hx)).2
 have u2 : (p.1.map T9).all K5 = true := List.all_eq_true.2 fun y hy => by obtain ⟨z, hz, rfl⟩ := List.mem_map.1 hy; exact (b2Q (H.u z hz)).1
 have u3 : p.1.all K5 = true := List.all_eq_true.2 H.u
 refine ⟨?_, by simp only [wPg, b4k, u1]⟩
 have h' := h
 unfold a1o at h' ⊢
 simp only [Bool.and_eq_true, decide_eq_true_eq] at h' ⊢
 exact ⟨h'.1, h'.2.1, by show (p.1.map T9).length ≤ 200; rw [List.length_map]; exact h'.2.2.1, u2⟩
end Go.Proofs.YtlobhcgbmpcdlaaGreatDoor.R
