import Derived.Test.YtelpjfihadaomaaGreatDoorLstB
import Derived.Test.YtelpjfihadaomaaGreatDoorTreeN
open Bool (and_eq_true)
namespace Go.Proofs.YtelpjfihadaomaaGreatDoor.R
open Go Go.Bm Go.Proofs
set_option linter.unusedVariables false
set_option linter.unusedSimpArgs false
set_option maxRecDepth 4000
theorem a8H {e:List Nd} (h:D5 e = true):s8 e = true:=by rw [D5,and_eq_true] at h; exact h.1
theorem a3a {e:List Nd} (h:s8 e = false):norm e = []:=by
 unfold norm a9B
 rw [if_neg (by rw [h]; simp)]
theorem b3p:s8 [] = false:=rfl
theorem a0K (e:List Nd):norm (norm e) = norm e:=by
 cases h:s8 e with
 | true => exact (K2 h).2.2.2
 | false => rw [a3a h,a3a b3p]
theorem a0J:norm [] = []:=a3a b3p
theorem b3s {n m:Nd} (h:blank m = blank n):S6 n = S6 m:=by
 have h1:m.1 = n.1:=congrArg (·.1) h
 have h2:m.2.2.2.2 = n.2.2.2.2:=congrArg (·.2.2.2.2) h
 have h3:m.2.2.2.2.2 = n.2.2.2.2.2:=congrArg (·.2) h2
 unfold S6
 rw [h3]
theorem a5I {e:List Nd} (h:D5 e = true):D5 (norm e) = true ∧ norm (norm e) = norm e:=by
 have hm:=a8H h
 obtain ⟨t,q1,q2,q3,q4,q5,q6,q7⟩:=a4D hm
 refine ⟨?_,(K2 hm).2.2.2⟩
 rw [D5,(K2 hm).1,Bool.true_and,List.all_eq_true]
 intro n hn
 rw [a0I hm q1] at hn
 have hb:blank n ∈ b7Y t:=by rw [← b0F t 0]; exact List.mem_map_of_mem hn
 obtain ⟨m,hm1,hm2⟩:=b6m t _ q1 _ hb
 rw [D5,and_eq_true,List.all_eq_true] at h
 rw [b3s hm2]
 exact h.2 m hm1
inductive ItF (x:Itm):Prop
 | ag (k:x.1 = 1 ∨ x.1 = 2) (nm:x.2.1 = []) (ty:x.2.2.1 = 0) (e:D5 x.2.2.2.1 = true) (f:x.2.2.2.2.1 = []) (a:x.2.2.2.2.2 = [])
 | gh (k:x.1 = 3) (nm:m6 x.2.1 = true) (ty:x.2.2.1 = 1 ∨ x.2.2.1 = 2) (e:D5 x.2.2.2.1 = true) (f:x.2.2.2.2.1 = []) (a:x.2.2.2.2.2 = [])
 | md (k:x.1 = 4) (nm:m6 x.2.1 = true) (ty:x.2.2.1 = 0) (e:D5 x.2.2.2.1 = true) (f:D5 x.2.2.2.2.1 = true) (a:x.2.2.2.2.2 = [])
 | im (k:x.1 = 5) (nm:m6 x.2.1 = true) (ty:x.2.2.1 = 0) (e:x.2.2.2.1 = []) (f:x.2.2.2.2.1 = []) (l:x.2.2.2.2.2.length ≤ 200) (a:∀ y ∈ x.2.2.2.2.2,D5 y = true)
theorem itF {x:Itm} (h:M3 x = true):ItF x:=by
 unfold M3 at h
 split at h
 · rename_i k
   simp only [and_eq_true,beq_iff_eq,decide_eq_true_eq,List.length_eq_zero_iff] at h
   exact .ag k h.1 h.2.1 h.2.2.1 h.2.2.2.1 h.2.2.2.2
 split at h
 · rename_i k
   simp only [and_eq_true,Bool.or_eq_true,beq_iff_eq,decide_eq_true_eq,List.length_eq_zero_iff] at h
   exact .gh k h.1 h.2.1 h.2.2.1 h.2.2.2.1 h.2.2.2.2
 split at h
 · rename_i k
   simp only [and_eq_true,beq_iff_eq,decide_eq_true_eq,List.length_eq_zero_iff] at h
   exact .md k h.1 h.2.1 h.2.2.1 h.2.2.2.1 h.2.2.2.2
 split at h
 · rename_i k
   simp only [and_eq_true,beq_iff_eq,decide_eq_true_eq,List.length_eq_zero_iff,List.all_eq_true] at h
   exact .im k h.1 h.2.1 h.2.2.1 h.2.2.2.1 h.2.2.2.2.1 h.2.2.2.2.2
 · cases h
structure UnF (u:Unt):Prop where
 nm:m6 u.2.1 = true
 i:u.2.2.1.length ≤ 200
 ib:∀ p ∈ u.2.2.1,a2p p = true
 v:u.2.2.2.2.2.1.length ≤ 200
 vb:∀ p ∈ u.2.2.2.2.2.1,a2p p = true
 q:u.2.2.2.2.2.2.1.length ≤ 200
 qb:∀ p ∈ u.2.2.2.2.2.2.1,a3k p = true
 x:u.2.2.2.2.2.2.2.length ≤ 200
 xb:∀ p ∈ u.2.2.2.2.2.2.2,M3 p = true
 k:u.1 = true → u.2.2.2.1 = [] ∧ u.2.2.2.2.1 = 0 ∧ u.2.2.2.2.2.1 = [] ∧ u.2.2.2.2.2.2.1 = []
 o:u.1 = false → a2p (u.2.2.2.1,u.2.2.2.2.1) = true
theorem unF {u:Unt} (h:Z7 u = true):UnF u:=by
 unfold Z7 a1E at h
 simp only [and_eq_true,decide_eq_true_eq,List.all_eq_true] at h
 obtain ⟨h1,⟨h2,h3⟩,⟨h4,h5⟩,⟨h6,h7⟩,⟨h8,h9⟩,h10⟩:=h
 refine ⟨h1,h2,h3,h4,h5,h6,h7,h8,h9,fun k => ?_,fun k => ?_⟩
 · rw [k,cond_true] at h10
   simp only [and_eq_true,beq_iff_eq,decide_eq_true_eq,List.length_eq_zero_iff] at h10
   exact ⟨h10.1.1,h10.1.2,h10.2.1,h10.2.2⟩
 · rw [k,cond_false] at h10; exact h10
structure PgF (p:Prg):Prop where
 mn:m6 p.2.1 = true
 bk:p.2.2 = [] ∨ m6 p.2.2 = true
 n:p.1.length ≤ 200
 u:∀ u ∈ p.1,Z7 u = true
theorem pgF {p:Prg} (h:S3 p = true):PgF p:=by
 unfold S3 at h
 simp only [and_eq_true,Bool.or_eq_true,beq_iff_eq,decide_eq_true_eq,List.all_eq_true] at h
 exact ⟨h.1,h.2.1,h.2.2.1,h.2.2.2⟩
theorem eqF {q:Eqn} (h:a3k q = true):m6 q.1 = true ∧ D5 q.2 = true:=by rw [a3k,and_eq_true] at h; exact h
theorem b8c (q:Eqn):K9 (K9 q) = K9 q:=by simp only [K9,a0K]
theorem c0X (l:List (List Nd)):(l.map norm).map norm = l.map norm:=by
 rw [List.map_map]; apply List.map_congr_left; intro e _; exact a0K e
theorem b0Y (x:Itm):K3 (K3 x) = K3 x:=by simp only [K3,a0K,c0X]
theorem b0Z (u:Unt):K4 (K4 u) = K4 u:=by
 have h1:(u.2.2.2.2.2.2.1.map K9).map K9 = u.2.2.2.2.2.2.1.map K9:=by rw [List.map_map]; apply List.map_congr_left; intro e _; exact b8c e
 have h2:(u.2.2.2.2.2.2.2.map K3).map K3 = u.2.2.2.2.2.2.2.map K3:=by rw [List.map_map]; apply List.map_congr_left; intro e _; exact b0Y e
 simp only [K4,h1,h2]
theorem c1p {x:Itm} (h:M3 x = true):M3 (K3 x) = true:=by
 obtain ⟨kd,nm,ty,e,f,gs⟩:=x
 cases itF h with
 | ag k nm' ty' e' f' a =>
   simp only at k nm' ty' e' f' a
   subst nm'; subst ty'; subst f'; subst a
   have he:=a5I e'
   rcases k with k | k
   · subst k
     exact (by simp [M3,K3,he.1,a0J])
   · subst k
     exact (by simp [M3,K3,he.1,a0J])
 | gh k nm' ty' e' f' a =>
   simp only at k nm' ty' e' f' a
   subst k; subst f'; subst a
   have he:=a5I e'
   rcases ty' with ty' | ty' <;> subst ty' <;> simp [M3,K3,he.1,a0J,nm']
 | md k nm' ty' e' f' a =>
   simp only at k nm' ty' e' f' a
   subst k; subst ty'; subst a
   have he:=a5I e'
   have hf:=a5I f'
   exact (by simp [M3,K3,he.1,hf.1,nm'])
 | im k nm' ty' e' f' l a =>
   simp only at k nm' ty' e' f' l a
   subst k; subst ty'; subst e'; subst f'
   have h1:∀ y ∈ gs,D5 (norm y) = true:=fun y hy => (a5I (a y hy)).1
   simp [M3,K3,a0J,nm',l]
   exact h1
theorem c1t {q:Eqn} (h:a3k q = true):a3k (K9 q) = true:=by
 obtain ⟨h1,h2⟩:=eqF h
 have:=a5I h2
 simp only [a3k,K9,h1,this.1]; rfl
theorem b3z {u:Unt} (h:Z7 u = true):Z7 (K4 u) = true:=by
 have H:=unF h
 have q2:(u.2.2.2.2.2.2.1.map K9).all a3k = true:=List.all_eq_true.2 fun y hy => by obtain ⟨z,hz,rfl⟩:=List.mem_map.1 hy; exact (c1t (H.qb z hz))
 have x2:(u.2.2.2.2.2.2.2.map K3).all M3 = true:=List.all_eq_true.2 fun y hy => by obtain ⟨z,hz,rfl⟩:=List.mem_map.1 hy; exact (c1p (H.xb z hz))
 have q3:u.2.2.2.2.2.2.1.all a3k = true:=List.all_eq_true.2 H.qb
 have x3:u.2.2.2.2.2.2.2.all M3 = true:=List.all_eq_true.2 H.xb
 have h':=h
 unfold Z7 at h' ⊢
 simp only [and_eq_true,decide_eq_true_eq] at h' ⊢
 obtain ⟨h1,h2,h3,⟨h4,_⟩,⟨h6,_⟩,h8⟩:=h'
 refine ⟨h1,h2,h3,⟨by show (u.2.2.2.2.2.2.1.map K9).length ≤ 200; rw [List.length_map]; exact h4,q2⟩,⟨by show (u.2.2.2.2.2.2.2.map K3).length ≤ 200; rw [List.length_map]; exact h6,x2⟩,?_⟩
 cases hk:u.1 with
 | true =>
   obtain ⟨a,b,c,d⟩:=H.k hk
   simp [K4,hk,a,b,c,d]
 | false => simp [K4,hk,H.o hk]
theorem a2L {n m:Nat} (hn:n ≤ 1000000) (hm:m ≤ 1000000) {a:Prg} (ha:SzP n m a):a7N T.rf a a = some true:=by
 obtain ⟨z,h1,h2⟩:=d2W hn hm ha ha
 rw [h1,h2.2 rfl]
end Go.Proofs.YtelpjfihadaomaaGreatDoor.R
