import Derived.Test.YtadonikkibahnaaGreatBmF
namespace Go.Proofs.YtadonikkibahnaaGreat.R
open Go Go.Bm Go.Proofs
set_option linter.unusedVariables false
set_option linter.unusedSimpArgs false
set_option maxRecDepth 4000
theorem filter_one {α:Type} [DecidableEq α] {x:α} (p:α → Bool):∀ {l:List α},l.Nodup → x ∈ l → (l.filter (fun y => p y && !(decide (y = x)))).length + (if p x = true then 1 else 0) = (l.filter p).length
 | [],_,h => by simp at h
 | a :: r,hn,h => by
   rw [List.nodup_cons] at hn
   by_cases e:a = x
   · subst e
     have hr:r.filter (fun y => p y && !(decide (y = a))) = r.filter p:=List.filter_congr fun y hy => by
      rw [decide_eq_false (fun e:y = a => hn.1 (e ▸ hy))]; simp
     rw [List.filter_cons_of_neg (by simp),hr]
     by_cases hp:p a = true
     · rw [if_pos hp,List.filter_cons_of_pos hp]; rfl
     · rw [if_neg hp,List.filter_cons_of_neg hp]; rfl
   · have ih:=filter_one p hn.2 (show x ∈ r from (List.mem_cons.1 h).resolve_left (Ne.symm e))
     by_cases hp:p a = true
     · rw [List.filter_cons_of_pos (by simp [hp,e]),List.filter_cons_of_pos hp,List.length_cons,List.length_cons]; omega
     · rw [List.filter_cons_of_neg (by simp [hp]),List.filter_cons_of_neg hp]; exact ih
theorem sub_len {α:Type} [DecidableEq α]:∀ {l m:List α},l.Nodup → (∀ x ∈ l,x ∈ m) → l.length ≤ m.length
 | [],_,_,_ => Nat.zero_le _
 | x :: r,m,hn,h => by
   rw [List.nodup_cons] at hn
   have h1:=sub_len (m:=m.filter fun y => !(decide (y = x))) hn.2 (fun y hy => by
    rw [List.mem_filter]
    exact ⟨h y (List.mem_cons_of_mem _ hy),by rw [decide_eq_false (fun e:y = x => hn.1 (e ▸ hy))]; rfl⟩)
   have h2:(m.filter fun y => !(decide (y = x))).length < m.length:=by
    refine Nat.lt_of_le_of_ne (List.length_filter_le _ _) (fun e => ?_)
    have:=List.length_filter_eq_length_iff.1 e x (h x List.mem_cons_self)
    simp at this
   rw [List.length_cons]; omega
def ints (l:List Nat):List Int:=l.map fun k => ((k:Nat):Int)
section
variable (D:Nat → Nat → Bool) (n:Nat)
def waitsN (T:List Nat) (i:Nat):Nat:=((List.range n).filter fun j => D i j && !(decide (j ∈ T))).length
def rdy (T:List Nat) (i:Nat):Bool:=!(decide (i ∈ T)) && decide (waitsN D n T i = 0)
def nextO (T:List Nat):Option Nat:=(List.range n).find? (rdy D n T)
def greedy:Nat → List Nat → List Nat
 | 0,T => T
 | f + 1,T => match nextO D n T with
   | none => T
   | some i => greedy f (T ++ [i])
def ordO:List Int × Int:=if (greedy D n n []).length < n then ([],12) else (ints (greedy D n n []),0)
inductive Val:List Nat → Prop where
 | nil:Val []
 | snoc {T:List Nat} {i:Nat}:Val T → i < n → rdy D n T i = true → Val (T ++ [i])
end
variable {D:Nat → Nat → Bool} {n:Nat}
theorem waitsN_zero {T:List Nat} {i:Nat}:waitsN D n T i = 0 ↔ ∀ j,j < n → D i j = true → j ∈ T:=by
 rw [waitsN,List.length_eq_zero_iff,List.filter_eq_nil_iff]
 constructor
 · intro h j hj hd
   have:=h j (List.mem_range.2 hj)
   rw [hd] at this
   simpa using this
 · intro h j hj
   by_cases hd:D i j = true
   · simp [h j (List.mem_range.1 hj) hd]
   · simp [hd]
theorem rdy_iff {T:List Nat} {i:Nat}:rdy D n T i = true ↔ i ∉ T ∧ ∀ j,j < n → D i j = true → j ∈ T:=by
 rw [rdy,Bool.and_eq_true,decide_eq_true_iff,waitsN_zero]; simp
theorem val_lt {T:List Nat} (h:Val D n T):∀ x ∈ T,x < n:=by
 induction h with
 | nil => intro x hx; simp at hx
 | snoc h hi hr ih =>
   intro x hx
   rcases List.mem_append.1 hx with h1 | h1
   · exact ih x h1
   · rw [List.mem_singleton.1 h1]; exact hi
theorem val_nodup {T:List Nat} (h:Val D n T):T.Nodup:=by
 induction h with
 | nil => exact List.nodup_nil
 | snoc h hi hr ih =>
   rw [List.nodup_append]
   exact ⟨ih,by simp,fun a ha b hb e => (rdy_iff.1 hr).1 (by rw [List.mem_singleton.1 hb] at e; exact e ▸ ha)⟩
theorem val_closed {T:List Nat} (h:Val D n T):∀ i ∈ T,∀ j,j < n → D i j = true → j ∈ T:=by
 induction h with
 | nil => intro x hx; simp at hx
 | snoc h hi hr ih =>
   intro x hx j hj hd
   rcases List.mem_append.1 hx with h1 | h1
   · exact List.mem_append_left _ (ih x h1 j hj hd)
   · rw [List.mem_singleton.1 h1] at hd
     exact List.mem_append_left _ ((rdy_iff.1 hr).2 j hj hd)
theorem val_len {T:List Nat} (h:Val D n T):T.length ≤ n:=by
 have:=sub_len (m:=List.range n) (val_nodup h) (fun x hx => List.mem_range.2 (val_lt h x hx))
 simpa using this
theorem val_all {T:List Nat} (h:Val D n T) (hl:n ≤ T.length) (j:Nat) (hj:j < n):j ∈ T:=by
 refine Classical.byContradiction fun hn => ?_
 have:=sub_len (l:=j :: T) (m:=List.range n) (List.nodup_cons.2 ⟨hn,val_nodup h⟩) (fun x hx => by
  rcases List.mem_cons.1 hx with e | e
  · rw [e]; exact List.mem_range.2 hj
  · exact List.mem_range.2 (val_lt h x e))
 rw [List.length_cons,List.length_range] at this; omega
theorem val_behind {T:List Nat} (h:Val D n T):∀ (A B:List Nat) (i:Nat),T = A ++ i :: B → ∀ j,j < n → D i j = true → j ∈ A:=by
 induction h with
 | nil => intro A B i e; simp at e
 | snoc h hi hr ih =>
   intro A B i e j hj hd
   rcases List.eq_nil_or_concat B with hB | ⟨B',b,hB⟩
   · subst hB
     obtain ⟨e1,e2⟩:=List.append_inj' e rfl
     simp only [List.cons.injEq,and_true] at e2
     subst e1; subst e2
     exact (rdy_iff.1 hr).2 j hj hd
   · subst hB
     rw [List.concat_eq_append,← List.cons_append,← List.append_assoc] at e
     obtain ⟨e1,e2⟩:=List.append_inj' e rfl
     exact ih A B' i e1 j hj hd
theorem next_spec {T:List Nat} {i:Nat}:nextO D n T = some i ↔ rdy D n T i = true ∧ i < n ∧ ∀ j,j < i → rdy D n T j = false:=by
 rw [nextO,List.find?_range_eq_some,List.mem_range]
 simp
theorem next_none {T:List Nat}:nextO D n T = none ↔ ∀ j,j < n → rdy D n T j = false:=by
 rw [nextO,List.find?_eq_none]
 simp [List.mem_range]
theorem next_full {T:List Nat} (h:Val D n T) (hl:n ≤ T.length):nextO D n T = none:=next_none.2 fun j hj => by
 rw [rdy,decide_eq_true (val_all h hl j hj)]; rfl
theorem greedy_val:∀ (f:Nat) (T:List Nat),Val D n T → Val D n (greedy D n f T)
 | 0,T,h => h
 | f + 1,T,h => by
   rw [greedy]
   cases he:nextO D n T with
   | none => exact h
   | some i =>
     have:=next_spec.1 he
     exact greedy_val f _ (Val.snoc h this.2.1 this.1)
theorem waits_step {T:List Nat} {i:Nat} (hi:i < n) (hT:i ∉ T) (k:Nat):waitsN D n (T ++ [i]) k + (if D k i = true then 1 else 0) = waitsN D n T k:=by
 have h:=filter_one (x:=i) (fun j => D k j && !(decide (j ∈ T))) (List.nodup_range (n:=n)) (List.mem_range.2 hi)
 rw [waitsN,waitsN,← h]
 have e1:((List.range n).filter fun j => D k j && !(decide (j ∈ T ++ [i]))) = (List.range n).filter (fun y => (D k y && !(decide (y ∈ T))) && !(decide (y = i))):=by
  refine List.filter_congr fun y _ => ?_
  by_cases h1:y ∈ T <;> by_cases h2:y = i <;> simp [h1,h2]
 rw [e1]
 congr 1
 simp [hT]
theorem val_next {T:List Nat} (h:Val D n T) {i:Nat} (hr:rdy D n T i = true) (hi:i < n) (k:Nat) (hk:k < n) (hd:D k i = true):k ∉ T ∧ k ≠ i ∧ rdy D n T k = false:=by
 have h1:=rdy_iff.1 hr
 refine ⟨fun x => h1.1 (val_closed h k x i hi hd),fun e => h1.1 (h1.2 i hi (e ▸ hd)),?_⟩
 cases hk:rdy D n T k with
 | false => rfl
 | true => exact absurd ((rdy_iff.1 hk).2 i hi hd) h1.1
end Go.Proofs.YtadonikkibahnaaGreat.R
