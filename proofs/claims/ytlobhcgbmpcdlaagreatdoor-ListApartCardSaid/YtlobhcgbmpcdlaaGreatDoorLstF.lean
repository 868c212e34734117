import Derived.Test.YtlobhcgbmpcdlaaGreatDoorLstE
namespace Go.Proofs.YtlobhcgbmpcdlaaGreatDoor.R
open Go Go.Bm Go.Proofs
set_option linter.unusedVariables false
set_option linter.unusedSimpArgs false
set_option maxRecDepth 4000
theorem ordI_may {x : Itm} (h : itmB x = true) : itmB (ordI x) = true ∧ wIt (ordI x) = wIt x := by
 obtain ⟨kd, nm, ty, e, f, gs⟩ := x
 cases itF h with
 | ag k nm' ty' e' f' a =>
   simp only at k nm' ty' e' f' a
   subst nm'; subst ty'; subst f'; subst a
   have he := norm_S e'
   rcases k with k | k
   · subst k
     exact ⟨by simp [itmB, ordI, he.1, norm_nil], by simp [wIt, ordI, he.2.1]⟩
   · subst k
     exact ⟨by simp [itmB, ordI, he.1, norm_nil], by simp [wIt, ordI, he.2.1]⟩
 | gh k nm' ty' e' f' a =>
   simp only at k nm' ty' e' f' a
   subst k; subst f'; subst a
   have he := norm_S e'
   refine ⟨?_, by simp [wIt, ordI, he.2.1]⟩
   rcases ty' with ty' | ty' <;> subst ty' <;> simp [itmB, ordI, he.1, norm_nil, nm']
 | md k nm' ty' e' f' a =>
   simp only at k nm' ty' e' f' a
   subst k; subst ty'; subst a
   have he := norm_S e'
   have hf := norm_S f'
   exact ⟨by simp [itmB, ordI, he.1, hf.1, nm'], by simp [wIt, ordI, he.2.1, hf.2.1]⟩
 | im k nm' ty' e' f' l a =>
   simp only at k nm' ty' e' f' l a
   subst k; subst ty'; subst e'; subst f'
   have h1 : ∀ y ∈ gs, mayS (norm y) = true := fun y hy => (norm_S (a y hy)).1
   have h2 : (gs.map norm).map etoks = gs.map etoks := by
    rw [List.map_map]; apply List.map_congr_left; intro y hy; exact (norm_S (a y hy)).2.1
   refine ⟨?_, by simp only [wIt, ordI, h2]; rfl⟩
   simp [itmB, ordI, norm_nil, nm', l]
   exact h1
theorem ordQ_may {q : Eqn} (h : eqnB q = true) : eqnB (ordQ q) = true ∧ wEq (ordQ q) = wEq q := by
 obtain ⟨h1, h2⟩ := eqF h
 have := norm_S h2
 exact ⟨by simp only [eqnB, ordQ, h1, this.1]; rfl, by simp only [wEq, ordQ, this.2.1]⟩
theorem map_same {α : Type} {f : α → α} {w : α → List Str} : ∀ l : List α, (∀ x ∈ l, w (f x) = w x) → ((l.map f).map w).flatten = (l.map w).flatten
 | [], _ => rfl
 | x :: l, h => by simp only [List.map_cons, List.flatten_cons, h x (by simp), map_same l fun y hy => h y (List.mem_cons_of_mem _ hy)]
theorem ordU_may {u : Unt} (h : untB u = true) : untB (ordU u) = true ∧ wUn (ordU u) = wUn u := by
 have H := unF h
 have q1 : wEqs (u.2.2.2.2.2.2.1.map ordQ) = wEqs u.2.2.2.2.2.2.1 := map_same _ fun x hx => (ordQ_may (H.qb x hx)).2
 have x1 : wIts (u.2.2.2.2.2.2.2.map ordI) = wIts u.2.2.2.2.2.2.2 := map_same _ fun x hx => (ordI_may (H.xb x hx)).2
 have q2 : (u.2.2.2.2.2.2.1.map ordQ).all eqnB = true := List.all_eq_true.2 fun y hy => by obtain ⟨z, hz, rfl⟩ := List.mem_map.1 hy; exact (ordQ_may (H.qb z hz)).1
 have x2 : (u.2.2.2.2.2.2.2.map ordI).all itmB = true := List.all_eq_true.2 fun y hy => by obtain ⟨z, hz, rfl⟩ := List.mem_map.1 hy; exact (ordI_may (H.xb z hz)).1
 have q3 : u.2.2.2.2.2.2.1.all eqnB = true := List.all_eq_true.2 H.qb
 have x3 : u.2.2.2.2.2.2.2.all itmB = true := List.all_eq_true.2 H.xb
 refine ⟨?_, by simp only [wUn, ordU, q1, x1, List.length_map]⟩
 have h' := h
 unfold untB at h' ⊢
 simp only [Bool.and_eq_true, decide_eq_true_eq] at h' ⊢
 obtain ⟨h1, h2, h3, ⟨h4, _⟩, ⟨h6, _⟩, h8⟩ := h'
 refine ⟨h1, h2, h3, ⟨by show (u.2.2.2.2.2.2.1.map ordQ).length ≤ 200; rw [List.length_map]; exact h4, q2⟩, ⟨by show (u.2.2.2.2.2.2.2.map ordI).length ≤ 200; rw [List.length_map]; exact h6, x2⟩, ?_⟩
 cases hk : u.1 with
 | true =>
   obtain ⟨a, b, c, d⟩ := H.k hk
   simp [ordU, hk, a, b, c, d]
 | false => simp [ordU, hk, H.o hk]
theorem ordP_may {p : Prg} (h : prgB p = true) : prgB (ordP p) = true ∧ wPg (ordP p) = wPg p := by
 have H := pgF h
 have u1 : wUns (p.1.map ordU) = wUns p.1 := map_same _ fun x hx => (ordU_may (H.u x hx)).2
 have u2 : (p.1.map ordU).all untB = true := List.all_eq_true.2 fun y hy => by obtain ⟨z, hz, rfl⟩ := List.mem_map.1 hy; exact (ordU_may (H.u z hz)).1
 have u3 : p.1.all untB = true := List.all_eq_true.2 H.u
 refine ⟨?_, by simp only [wPg, ordP, u1]⟩
 have h' := h
 unfold prgB at h' ⊢
 simp only [Bool.and_eq_true, decide_eq_true_eq] at h' ⊢
 exact ⟨h'.1, h'.2.1, by show (p.1.map ordU).length ≤ 200; rw [List.length_map]; exact h'.2.2.1, u2⟩
end Go.Proofs.YtlobhcgbmpcdlaaGreatDoor.R
