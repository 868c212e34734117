import Derived.Test.YtelpjfihadaomaaGreatDoorNamD
namespace Go.Proofs.YtelpjfihadaomaaGreatDoor.R
open Go Go.Bm Go.Proofs
set_option linter.unusedVariables false
set_option linter.unusedSimpArgs false
set_option maxRecDepth 4000
theorem a4d {S:List Str} {out:List Itm} {x:Itm} {c:Int} (h:H6 S out x = .inl c):c ≠ 0:=by
 unfold H6 at h
 split at h
 · cases h; omega
 split at h
 · cases h
 · cases h; omega
theorem a3s {S:List Str} {nm:Str} {names:List Str} {by_:List (List Nd)} {c:Int}:∀ {suf out:List Itm},m7 S nm names by_ suf out = .inl c → c ≠ 0
 | [],out,h => by cases h
 | y :: suf,out,h => by
   simp only [m7] at h
   split at h
   · rename_i c' hy
     cases h
     unfold S5 at hy
     split at hy
     · cases hy; omega
     split at hy
     · cases hy
     · cases hy; omega
   split at h
   · rename_i c' ha; cases h; exact a4d ha
   · exact a3s h
theorem a6o {U:Str → Option Unt} {S:List Str} {out:List Itm} {x:Itm} {c:Int} (h:B4 U S out x = .inl c):c ≠ 0:=by
 unfold B4 at h
 split at h
 · cases h; omega
 split at h
 · split at h
   · exact a3s h
   · cases h; omega
 · cases h; omega
theorem a8k {U:Str → Option Unt} {S:List Str} {c:Int}:∀ {suf out:List Itm},s5 U S suf out = .inl c → c ≠ 0
 | [],out,h => by cases h
 | x :: suf,out,h => by
   simp only [s5] at h
   split at h
   · split at h
     · rename_i c' ha
       cases h
       split at ha
       · exact a6o ha
       · exact a4d ha
     · exact a8k h
   · rename_i hk; cases h; exact hk
theorem b2V {U:Str → Option Unt} {S G A:List Str} {c:Int}:∀ {suf:List Eqn} {O:List Str},P6 U S G A O suf = .inl c → c ≠ 0
 | [],O,h => by cases h
 | q :: suf,O,h => by
   simp only [P6] at h
   split at h
   · split at h
     · split at h
       · exact b2V h
       · rename_i hk; cases h; exact hk
     · cases h; omega
   · cases h; omega
theorem b8E {U:Str → Option Unt} {u:Unt} {c:Int} (h:K5 U u = .inl c):c ≠ 0:=by
 unfold K5 at h
 split at h
 · cases h; omega
 split at h
 · cases h; omega
 split at h
 · rename_i c' hi; cases h; exact a8k hi
 split at h
 · rename_i c' hi; cases h; exact b2V hi
 split at h
 · cases h
 · cases h; omega
theorem a9I {c:Int × Int}:∀ {suf done:List Unt},B8 done suf = .inl c → c.1 ≠ 0
 | [],done,h => by cases h
 | u :: suf,done,h => by
   simp only [B8] at h
   split at h
   · rename_i c' hu; cases h; exact b8E hu
   · exact a9I h
theorem a1r {p:Prg} (h:(m8 p).2.1 = 0):S3 p = true ∧ ∃ us m,B8 [] (D9 p).1 = .inr us ∧ m8 p = ((us,p.2.1,p.2.2),0,0) ∧ fU us p.2.1 = some m ∧ m.1 = false:=by
 unfold m8 at h ⊢
 cases hp:S3 p with
 | false => rw [hp] at h; simp at h
 | true =>
   rw [hp] at h
   simp only [if_true] at h ⊢
   refine ⟨trivial,?_⟩
   cases hU:B8 [] (D9 p).1 with
   | inl ci => rw [hU] at h; exact absurd h (a9I hU)
   | inr us =>
     rw [hU] at h
     simp only at h ⊢
     unfold b3b at h ⊢
     cases hm:fU us p.2.1 with
     | none => rw [hm] at h; simp at h
     | some m =>
       rw [hm] at h
       simp only at h ⊢
       rcases Bool.eq_false_or_eq_true m.1 with h1 | h1
       · simp [h1] at h
       · simp only [h1,Bool.false_eq_true,if_false] at h ⊢
         refine ⟨us,m,rfl,?_,hm,h1⟩
         by_cases hb:p.2.2 = []
         · rw [if_pos hb]
         · rw [if_neg hb] at h ⊢
           cases hk:fU us p.2.2 with
           | none => rw [hk] at h; simp at h
           | some b =>
             rw [hk] at h
             simp only at h ⊢
             rcases Bool.eq_false_or_eq_true b.1 with h2 | h2
             · simp [h2] at h
             · simp only [h2,Bool.false_eq_true,if_false] at h ⊢
               rcases Bool.eq_false_or_eq_true (b2o b m) with h3 | h3
               · rw [if_pos h3]
               · simp [h3] at h
theorem c0q {l:List Unt} {n:Str} {k:Unt} (h:fU l n = some k) (m:List Unt):fU (l ++ m) n = some k:=by
 unfold fU at *; rw [List.find?_append,h]; rfl
theorem b6f {l:List Unt} {u:Unt} (h:fU l u.2.1 = none):fU (l ++ [u]) u.2.1 = some u:=by
 unfold fU at *; rw [List.find?_append,h]; simp
theorem Z5:∀ {suf done us:List Unt},B8 done suf = .inr us → (∃ r,us = done ++ r ∧ r.length = suf.length) ∧
  ∀ i u,suf[i]? = some u → ∃ d u',K5 (fU d) u = .inr u' ∧ us[done.length + i]? = some u' ∧ fU us u.2.1 = some u' ∧ (∃ r,us = d ++ r) ∧ d.length = done.length + i
 | [],done,us,h => by cases h; exact ⟨⟨[],by simp,rfl⟩,fun i u h => by simp at h⟩
 | u :: suf,done,us,h => by
   simp only [B8] at h
   split at h
   · cases h
   rename_i u' hU
   obtain ⟨⟨r,h1,h2⟩,h3⟩:=Z5 h
   obtain ⟨k1,_,l,_,k4,_⟩:=S0 hU
   have hnm:u'.2.1 = u.2.1:=by rw [k4]; rfl
   refine ⟨⟨u' :: r,by rw [h1]; simp,by simp [h2]⟩,fun i v hv => ?_⟩
   cases i with
   | zero =>
     simp only [List.getElem?_cons_zero,Option.some.injEq] at hv
     subst hv
     refine ⟨done,u',hU,by rw [h1]; simp,?_,⟨u' :: r,by rw [h1]; simp⟩,rfl⟩
     rw [h1,← hnm]
     exact c0q (b6f (by rw [hnm]; exact k1)) r
   | succ i =>
     obtain ⟨d,v',g1,g2,g3,g4,g5⟩:=h3 i v (by simpa using hv)
     refine ⟨d,v',g1,?_,g3,g4,?_⟩
     · rw [← g2]; congr 1; simp; omega
     · rw [g5]; simp; omega
theorem a4z:c2 T.rf = some true:=c0T
end Go.Proofs.YtelpjfihadaomaaGreatDoor.R
