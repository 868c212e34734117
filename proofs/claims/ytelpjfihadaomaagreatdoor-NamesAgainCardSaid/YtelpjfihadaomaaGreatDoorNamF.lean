import Derived.Test.YtelpjfihadaomaaGreatDoorNamD
namespace Go.Proofs.YtelpjfihadaomaaGreatDoor.R
open Go Go.Bm Go.Proofs
set_option linter.unusedVariables false
set_option linter.unusedSimpArgs false
set_option maxRecDepth 4000
theorem a4d {S:List Str} {out:List Itm} {x:Itm} {c:Int} (h:H6 S out x = .inl c):c ≠ 0:=by
 unfold H6 at h
 split at h
 · cases h; omega
 split at h
 · cases h
 · cases h; omega
theorem a3s {S:List Str} {nm:Str} {names:List Str} {by_:List (List Nd)} {c:Int}:∀ {suf out:List Itm},m7 S nm names by_ suf out = .inl c → c ≠ 0
 | [],out,h => by cases h
 | y :: suf,out,h => by
   simp only [m7] at h
   split at h
   · rename_i c' hy
     cases h
     unfold S5 at hy
     split at hy
     · cases hy; omega
     split at hy
     · cases hy
     · cases hy; omega
   split at h
   · rename_i c' ha; cases h; exact a4d ha
   · exact a3s h
theorem a6o {U:Str → Option Unt} {S:List Str} {out:List Itm} {x:Itm} {c:Int} (h:B4 U S out x = .inl c):c ≠ 0:=by
 unfold B4 at h
 split at h
 · cases h; omega
 split at h
 · split at h
   · exact a3s h
   · cases h; omega
 · cases h; omega
theorem a8k {U:Str → Option Unt} {S:List Str} {c:Int}:∀ {suf out:List Itm},s5 U S suf out = .inl c → c ≠ 0
 | [],out,h => by cases h
 | x :: suf,out,h => by
   simp only [s5] at h
   split at h
   · split at h
     · rename_i c' ha
       cases h
       split at ha
       · exact a6o ha
       · exact a4d ha
     · exact a8k h
   · rename_i hk; cases h; exact hk
theorem b2V {U:Str → Option Unt} {S G A:List Str} {c:Int}:∀ {suf:List Eqn} {O:List Str},P6 U S G A O suf = .inl c → c ≠ 0
 | [],O,h => by cases h
 | q :: suf,O,h => by
   simp only [P6] at h
   split at h
   · split at h
     · split at h
       · exact b2V h
       · rename_i hk; cases h; exact hk
     · cases h; omega
   · cases h; omega
theorem b8E {U:Str → Option Unt} {u:Unt} {c:Int} (h:K5 U u = .inl c):c ≠ 0:=by
 unfold K5 at h
 split at h
 · cases h; omega
 split at h
 · cases h; omega
 split at h
 · rename_i c' hi; cases h; exact a8k hi
 split at h
 · rename_i c' hi; cases h; exact b2V hi
 split at h
 · cases h
 · cases h; omega
theorem a9I {c:Int × Int}:∀ {suf done:List Unt},B8 done suf = .inl c → c.1 ≠ 0
 | [],done,h => by cases h
 | u :: suf,done,h => by
   simp only [B8] at h
   split at h
   · rename_i c' hu; cases h; exact b8E hu
   · exact a9I h
theorem a1r {p:Prg} (h:(m8 p).2.1 = 0):S3 p = true ∧ ∃ us m,B8 [] (D9 p).1 = .inr us ∧ m8 p = ((us,p.2.1,p.2.2),0,0) ∧ fU us p.2.1 = some m ∧ m.1 = false:=by
 unfold m8 at h ⊢
 cases hp:S3 p with
 | false => rw [hp] at h; simp at h
 | true =>
   rw [hp] at h
   simp only [if_true] at h ⊢
   refine ⟨trivial,?_⟩
   cases hU:B8 [] (D9 p).1 with
   | inl ci => rw [hU] at h; exact absurd h (a9I hU)
   | inr us =>
     rw [hU] at h
     simp only at h ⊢
     unfold b3b at h ⊢
     cases hm:fU us p.2.1 with
     | none => rw [hm] at h; simp at h
     | some m =>
       rw [hm] at h
       simp only at h ⊢
       rcases Bool.eq_false_or_eq_true m.1 with h1 | h1
       · simp [h1] at h
       · simp only [h1,Bool.false_eq_true,if_false] at h ⊢
         refine ⟨us,m,rfl,?_,hm,h1⟩
         by_cases hb:p.2.2 = []
         · rw [if_pos hb]
         · rw [if_neg hb] at h ⊢
           cases hk:fU us p.2.2 with
           | none => rw [hk] at h; simp at h
           | some b =>
             rw [hk] at h
             simp only at h ⊢
             rcases Bool.eq_false_or_eq_true b.1 with h2 | h2
             · simp [h2] at h
             · simp only [h2,Bool.false_eq_true,if_false] at h ⊢
               rcases Bool.eq_false_or_eq_true (b2o b m) with h3 | h3
               · rw [if_pos h3]
               · simp [h3] at h
theorem c0q {l:List Unt} {n:Str} {k:Unt} (h:fU l n = some k) (m:List Unt):fU (l ++ m) n = some k:=by
 unfold fU at *; rw [List.find?_append,h]; rfl
theorem b6f {l:List Unt} {u:Unt} (h:fU l u.2.1 = none):fU (l ++ [u]) u.2.1 = some u:=by
 unfold fU at *; rw [List.find?_append,h]; simp
theorem Z5:∀ {suf done us:List Unt},B8 done suf = .inr us → (∃ r,us = done ++ r ∧ r.length = suf.length) ∧
  ∀ i u,suf[i]? = some u → ∃ d u',K5 (fU d) u = .inr u' ∧ us[done.length + i]? = some u' ∧ fU us u.2.1 = some u' ∧ (∃ r,us = d ++ r) ∧ d.length = done.length + i
 | [],done,us,h => by cases h; exact ⟨⟨[],by simp,rfl⟩,fun i u h => by simp at h⟩
 | u :: suf,done,us,h => by
   simp only [B8] at h
   split at h
   · cases h
   rename_i u' hU
   obtain ⟨⟨r,h1,h2⟩,h3⟩:=Z5 h
   obtain ⟨k1,_,l,_,k4,_⟩:=S0 hU
   have hnm:u'.2.1 = u.2.1:=by rw [k4]; rfl
   refine ⟨⟨u' :: r,by rw [h1]; simp,by simp [h2]⟩,fun i v hv => ?_⟩
   cases i with
   | zero =>
     simp only [List.getElem?_cons_zero,Option.some.injEq] at hv
     subst hv
     refine ⟨done,u',hU,by rw [h1]; simp,?_,⟨u' :: r,by rw [h1]; simp⟩,rfl⟩
     rw [h1,← hnm]
     exact c0q (b6f (by rw [hnm]; exact k1)) r
   | succ i =>
     obtain ⟨d,v',g1,g2,g3,g4,g5⟩:=h3 i v (by simpa using hv)
     refine ⟨d,v',g1,?_,g3,g4,?_⟩
     · rw [← g2]; congr 1; simp; omega
     · rw [g5]; simp; omega
theorem a3r {Q:Itm → Prop} {S:List Str} {nm:Str} {names:List Str} {by_:List (List Nd)}:∀ {suf out l:List Itm},m7 S nm names by_ suf out = .inr l → (∀ y ∈ suf,∀ y',S5 nm names by_ y = .inr y' → Q y') → (∀ y ∈ out,Q y) → ∀ y ∈ l,Q y
 | [],out,l,h,hs,ho => by cases h; exact ho
 | y :: suf,out,l,h,hs,ho => by
   simp only [m7] at h
   split at h
   · cases h
   rename_i y' hy
   split at h
   · cases h
   · rename_i l' ha
     have:=(G2 ha).2
     subst this
     exact a3r h (fun z hz => hs z (List.mem_cons_of_mem _ hz)) (fun z hz => by
      rcases List.mem_append.1 hz with hz | hz
      · exact ho z hz
      · rw [List.mem_singleton.1 hz]; exact hs y List.mem_cons_self y' hy)
theorem a8j {Q:Itm → Prop} {U:Str → Option Unt} {S:List Str}:∀ {suf out l:List Itm},s5 U S suf out = .inr l → (∀ x ∈ suf,x.1 ≠ 5 → Q x) → (∀ n k,U n = some k → ∀ y ∈ k.2.2.2.2.2.2.2,∀ nm names by_ y',S5 nm names by_ y = .inr y' → Q y') → (∀ y ∈ out,Q y) → ∀ y ∈ l,Q y
 | [],out,l,h,hs,hk,ho => by cases h; exact ho
 | x :: suf,out,l,h,hs,hk,ho => by
   simp only [s5] at h
   split at h
   case isFalse => cases h
   split at h
   · cases h
   rename_i l' ha
   refine a8j h (fun y hy => hs y (List.mem_cons_of_mem _ hy)) hk ?_
   split at ha
   · unfold B4 at ha
     split at ha
     · cases ha
     rename_i k hU
     split at ha
     · split at ha
       · exact a3r ha (fun y hy y' hy' => hk _ k hU y hy _ _ _ y' hy') ho
       · cases ha
     · cases ha
   · rename_i h5
     obtain ⟨h1,rfl⟩:=G2 ha
     intro z hz
     rcases List.mem_append.1 hz with hz | hz
     · exact ho z hz
     · rw [List.mem_singleton.1 hz]; exact hs x List.mem_cons_self h5
theorem a9H {Q:Itm → Prop} (hI:∀ y,Q y → ∀ nm names by_ y',S5 nm names by_ y = .inr y' → Q y'):∀ {suf done us:List Unt},B8 done suf = .inr us → (∀ u ∈ suf,∀ x ∈ u.2.2.2.2.2.2.2,x.1 ≠ 5 → Q x) → (∀ k ∈ done,∀ y ∈ k.2.2.2.2.2.2.2,Q y) → ∀ k ∈ us,∀ y ∈ k.2.2.2.2.2.2.2,Q y
 | [],done,us,h,hs,hd => by cases h; exact hd
 | u :: suf,done,us,h,hs,hd => by
   simp only [B8] at h
   split at h
   · cases h
   rename_i u' hU
   obtain ⟨_,_,l,hl,k4,_⟩:=S0 hU
   refine a9H hI h (fun v hv => hs v (List.mem_cons_of_mem _ hv)) (fun k hk => ?_)
   rcases List.mem_append.1 hk with hk | hk
   · exact hd k hk
   · rw [List.mem_singleton.1 hk,k4]
     exact a8j hl (hs u List.mem_cons_self) (fun n k hn y hy nm names by_ y' hy' => hI y (hd k (List.mem_of_find?_eq_some hn) y hy) nm names by_ y' hy') (by simp)
theorem b4S {nm:Str} {names:List Str} {by_:List (List Nd)} {y y':Itm} (h:S5 nm names by_ y = .inr y'):y'.1 = y.1 ∧ y'.2.2.1 = y.2.2.1 ∧ y'.2.2.2.2.2 = y.2.2.2.2.2:=by
 unfold S5 at h
 split at h
 · cases h
 split at h
 · cases h; exact ⟨rfl,rfl,rfl⟩
 · cases h
theorem b6L {p:Prg} (hs:SzP 200 200 p) (hp:S3 p = true) {us:List Unt} (h:B8 [] (D9 p).1 = .inr us) (mn bk:Str):SzP 200 5001 (us,mn,bk):=by
 have hin:=a4H hs hp
 have hok:=a0S h hin (by simp)
 obtain ⟨⟨r,h1,h2⟩,h3⟩:=Z5 h
 have hlen:us.length ≤ 200:=by rw [h1]; simp [h2,D9]; exact hs.c
 have hargs:=a9H (Q:=fun y => y.2.2.2.2.2.length ≤ 200 ∧ ∀ z ∈ y.2.2.2.2.2,z.length ≤ 200) (fun y hy nm names by_ y' h' => by rw [(b4S h').2.2]; exact hy) h (fun u hu x hx _ => by
  obtain ⟨_,_,_,d,e⟩:=(hin u hu).xe x hx; exact ⟨d,e⟩) (by simp)
 refine ⟨hlen,fun k hk => ?_⟩
 have hkok:=hok k hk
 obtain ⟨i,hi⟩:=List.mem_iff_getElem?.1 hk
 have hil:i < (D9 p).1.length:=by
  have:=(List.getElem?_eq_some_iff.1 hi).1
  rw [h1] at this; simp [h2] at this; exact this
 obtain ⟨d,u',g1,g2,_,_,_⟩:=h3 i _ (List.getElem?_eq_getElem hil)
 simp only [List.length_nil,Nat.zero_add] at g2
 rw [hi] at g2
 cases g2
 obtain ⟨_,_,l,_,k4,_⟩:=S0 g1
 have hu:=hin _ (List.getElem_mem hil)
 refine ⟨hkok.i,by rw [k4]; exact hu.v,by rw [k4]; exact hu.q,hkok.x,fun q hq => ?_,fun x hx => ?_⟩
 · rw [k4] at hq
   have hq:q ∈ ((D9 p).1[i]).2.2.2.2.2.2.1:=hq
   simp only [D9,List.getElem_map] at hq
   obtain ⟨q0,_,rfl⟩:=List.mem_map.1 hq
   exact Y6
 · obtain ⟨a1,a2,a3⟩:=hkok.nm x hx
   obtain ⟨b1,b2⟩:=hargs k hk x hx
   exact ⟨by omega,by omega,b1,fun y hy => by have:=b2 y hy; omega⟩
theorem a4z:c2 T.rf = some true:=c0T
theorem a6K {p:Prg} (hc:¬ (m8 p).2.1 = 0):(m8 p).1 = X5:=by
 unfold m8 at hc ⊢
 split
 · rename_i hp
   rw [if_pos hp] at hc
   split
   · rfl
   · rename_i us hU
     rw [hU] at hc
     simp only at hc ⊢
     unfold b3b at hc ⊢
     split
     · rfl
     rename_i m hm
     rw [hm] at hc
     simp only at hc ⊢
     split
     · rfl
     rename_i hm1
     rw [if_neg hm1] at hc
     split
     · rename_i hb; rw [if_pos hb] at hc; exact absurd rfl hc
     rename_i hb
     rw [if_neg hb] at hc
     split
     · rfl
     rename_i b hk
     rw [hk] at hc
     simp only at hc ⊢
     split
     · rfl
     rename_i hb1
     rw [if_neg hb1] at hc
     split
     · rename_i h3; rw [if_pos h3] at hc; exact absurd rfl hc
     · rfl
 · rfl
end Go.Proofs.YtelpjfihadaomaaGreatDoor.R
