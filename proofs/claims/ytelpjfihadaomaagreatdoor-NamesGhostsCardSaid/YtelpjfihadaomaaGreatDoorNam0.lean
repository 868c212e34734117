import Derived.Test.YtelpjfihadaomaaGreatDoorLstB
import Derived.Test.YtelpjfihadaomaaGreatDoorTreeN
open Bool (and_eq_true)
namespace Go.Proofs.YtelpjfihadaomaaGreatDoor.R
open Go Go.Bm Go.Proofs
set_option linter.unusedVariables false
set_option linter.unusedSimpArgs false
set_option maxRecDepth 4000
theorem a8H {e:List Nd} (h:D5 e = true):s8 e = true:=by rw [D5,and_eq_true] at h; exact h.1
theorem a3a {e:List Nd} (h:s8 e = false):norm e = []:=by
 unfold norm a9B
 rw [if_neg (by rw [h]; simp)]
theorem b3p:s8 [] = false:=rfl
theorem a0J:norm [] = []:=a3a b3p
inductive ItF (x:Itm):Prop
 | ag (k:x.1 = 1 ∨ x.1 = 2) (nm:x.2.1 = []) (ty:x.2.2.1 = 0) (e:D5 x.2.2.2.1 = true) (f:x.2.2.2.2.1 = []) (a:x.2.2.2.2.2 = [])
 | gh (k:x.1 = 3) (nm:m6 x.2.1 = true) (ty:x.2.2.1 = 1 ∨ x.2.2.1 = 2) (e:D5 x.2.2.2.1 = true) (f:x.2.2.2.2.1 = []) (a:x.2.2.2.2.2 = [])
 | md (k:x.1 = 4) (nm:m6 x.2.1 = true) (ty:x.2.2.1 = 0) (e:D5 x.2.2.2.1 = true) (f:D5 x.2.2.2.2.1 = true) (a:x.2.2.2.2.2 = [])
 | im (k:x.1 = 5) (nm:m6 x.2.1 = true) (ty:x.2.2.1 = 0) (e:x.2.2.2.1 = []) (f:x.2.2.2.2.1 = []) (l:x.2.2.2.2.2.length ≤ 200) (a:∀ y ∈ x.2.2.2.2.2,D5 y = true)
theorem itF {x:Itm} (h:M3 x = true):ItF x:=by
 unfold M3 at h
 split at h
 · rename_i k
   simp only [and_eq_true,beq_iff_eq,decide_eq_true_eq,List.length_eq_zero_iff] at h
   exact .ag k h.1 h.2.1 h.2.2.1 h.2.2.2.1 h.2.2.2.2
 split at h
 · rename_i k
   simp only [and_eq_true,Bool.or_eq_true,beq_iff_eq,decide_eq_true_eq,List.length_eq_zero_iff] at h
   exact .gh k h.1 h.2.1 h.2.2.1 h.2.2.2.1 h.2.2.2.2
 split at h
 · rename_i k
   simp only [and_eq_true,beq_iff_eq,decide_eq_true_eq,List.length_eq_zero_iff] at h
   exact .md k h.1 h.2.1 h.2.2.1 h.2.2.2.1 h.2.2.2.2
 split at h
 · rename_i k
   simp only [and_eq_true,beq_iff_eq,decide_eq_true_eq,List.length_eq_zero_iff,List.all_eq_true] at h
   exact .im k h.1 h.2.1 h.2.2.1 h.2.2.2.1 h.2.2.2.2.1 h.2.2.2.2.2
 · cases h
structure UnF (u:Unt):Prop where
 nm:m6 u.2.1 = true
 i:u.2.2.1.length ≤ 200
 ib:∀ p ∈ u.2.2.1,a2p p = true
 v:u.2.2.2.2.2.1.length ≤ 200
 vb:∀ p ∈ u.2.2.2.2.2.1,a2p p = true
 q:u.2.2.2.2.2.2.1.length ≤ 200
 qb:∀ p ∈ u.2.2.2.2.2.2.1,a3k p = true
 x:u.2.2.2.2.2.2.2.length ≤ 200
 xb:∀ p ∈ u.2.2.2.2.2.2.2,M3 p = true
 k:u.1 = true → u.2.2.2.1 = [] ∧ u.2.2.2.2.1 = 0 ∧ u.2.2.2.2.2.1 = [] ∧ u.2.2.2.2.2.2.1 = []
 o:u.1 = false → a2p (u.2.2.2.1,u.2.2.2.2.1) = true
theorem unF {u:Unt} (h:Z7 u = true):UnF u:=by
 unfold Z7 a1E at h
 simp only [and_eq_true,decide_eq_true_eq,List.all_eq_true] at h
 obtain ⟨h1,⟨h2,h3⟩,⟨h4,h5⟩,⟨h6,h7⟩,⟨h8,h9⟩,h10⟩:=h
 refine ⟨h1,h2,h3,h4,h5,h6,h7,h8,h9,fun k => ?_,fun k => ?_⟩
 · rw [k,cond_true] at h10
   simp only [and_eq_true,beq_iff_eq,decide_eq_true_eq,List.length_eq_zero_iff] at h10
   exact ⟨h10.1.1,h10.1.2,h10.2.1,h10.2.2⟩
 · rw [k,cond_false] at h10; exact h10
structure PgF (p:Prg):Prop where
 mn:m6 p.2.1 = true
 bk:p.2.2 = [] ∨ m6 p.2.2 = true
 n:p.1.length ≤ 200
 u:∀ u ∈ p.1,Z7 u = true
theorem pgF {p:Prg} (h:S3 p = true):PgF p:=by
 unfold S3 at h
 simp only [and_eq_true,Bool.or_eq_true,beq_iff_eq,decide_eq_true_eq,List.all_eq_true] at h
 exact ⟨h.1,h.2.1,h.2.2.1,h.2.2.2⟩
theorem eqF {q:Eqn} (h:a3k q = true):m6 q.1 = true ∧ D5 q.2 = true:=by rw [a3k,and_eq_true] at h; exact h
end Go.Proofs.YtelpjfihadaomaaGreatDoor.R
