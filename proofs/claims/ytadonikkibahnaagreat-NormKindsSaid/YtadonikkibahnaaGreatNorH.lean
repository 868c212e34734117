import Derived.Test.YtadonikkibahnaaGreatNorG
import Derived.Test.YtadonikkibahnaaGreatBack
namespace Go.Proofs.YtadonikkibahnaaGreat.R
open Go Go.Bm Go.Proofs
set_option linter.unusedVariables false
set_option linter.unusedSimpArgs false
set_option maxRecDepth 4000
theorem liveT:c2 T.rf = some true:=live_run
def smS (s:Sm):Bool:=decide (s.2.2.length ≤ 100) && decide (s.1.length ≤ 100)
def smallS (l:List Sm):Bool:=decide (l.length ≤ 60) && l.all smS
theorem small0_loop (l:List Sm) (hl:l.length ≤ 100000):∀ (suf pre:List Sm),l = pre ++ suf → k0 T.rb l (pre.length:Nat) = some (if suf.all smS = true then .inr () else .inl false)
 | [],pre,he => ob0 (by
   rw [List.append_nil] at he
   subst he
   simp only [b0,lt_self,cond_false]; rfl)
 | s :: suf,pre,he => ob0 (by
   have hll:l.length = pre.length + (suf.length + 1):=by rw [he]; simp
   have hlt:decide (((pre.length:Nat):Int) < ((l.length:Nat):Int)) = true:=dt (by omega)
   have hin:inb ((pre.length:Nat):Int) l.length = true:=inb_t (by omega) (by omega)
   have hnt:nth l ((pre.length:Nat):Int).toNat = some s:=by rw [he]; exact nth_mid pre s suf
   have hnx:IntKind.i64.wrap (((pre.length:Nat):Int) + 1) = (((pre ++ [s]).length:Nat):Int):=next_mid pre s (by omega)
   have ih:=small0_loop l hl suf (pre ++ [s]) (by simp [he])
   simp only [b0,hlt,hin,hnt,cond_true,Option.bind_some,hnx,ih]
   rw [List.all_cons,show smS s = (decide (s.2.2.length ≤ 100) && decide (s.1.length ≤ 100)) from rfl]
   by_cases h1:s.2.2.length ≤ 100
   · rw [df (show ¬ ((s.2.2.length:Nat):Int) > 100 by omega),cond_false,dt h1,Bool.true_and]
     by_cases h2:s.1.length ≤ 100
     · rw [df (show ¬ ((s.1.length:Nat):Int) > 100 by omega),cond_false,dt h2,Bool.true_and]
     · rw [dt (show ((s.1.length:Nat):Int) > 100 by omega),cond_true,df h2]; rfl
   · rw [dt (show ((s.2.2.length:Nat):Int) > 100 by omega),cond_true,df h1]; rfl)
theorem SmallS_eq (l:List Sm):c1 T.rf l [] = some (smallS l):=or1 (by
 simp only [r1]
 unfold smallS
 by_cases h:l.length ≤ 60
 · have h0:=small0_loop l (by omega) l [] rfl
   rw [List.length_nil,show ((0:Nat):Int) = (0:Int) from rfl] at h0
   have h2:k1 T.rb [] 0 = some (.inr ()):=ob1 rfl
   rw [df (show ¬ ((l.length:Nat):Int) > 60 by omega),cond_false,dt h,Bool.true_and,h0]
   cases l.all smS
   · rfl
   · show (k1 T.rb [] 0).bind _ = _
     rw [h2]; rfl
 · rw [dt (show ((l.length:Nat):Int) > 60 by omega),cond_true,df h]; rfl)
theorem small_S {l:List Sm} (h:smallS l = true):l.length ≤ 60 ∧ ∀ s ∈ l,s.2.2.length ≤ 100:=by
 rw [smallS,Bool.and_eq_true,decide_eq_true_eq,List.all_eq_true] at h
 refine ⟨h.1,fun s hs => ?_⟩
 have:=h.2 s hs
 rw [smS,Bool.and_eq_true,decide_eq_true_eq] at this
 exact this.1
theorem netS_len {l:List Sm} (hl:l.length ≤ 60):(netS l).1.1.length ≤ 500000 ∧ (netS l).1.2.1.length ≤ 60 ∧ (netS l).1.2.2.length ≤ 60:=by
 unfold netS
 have h1:=sumX_le l
 have h2:=nIn_le l
 repeat' split
 all_goals first | (refine ⟨?_,?_,?_⟩ <;> simp <;> done) | (refine ⟨?_,?_,?_⟩ <;> simp only [List.length_append,opsI_len,opsF_len,rtsF_len,inpS_len] <;> omega)
end Go.Proofs.YtadonikkibahnaaGreat.R
