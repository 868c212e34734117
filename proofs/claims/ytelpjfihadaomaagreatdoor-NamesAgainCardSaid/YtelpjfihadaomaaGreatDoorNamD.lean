import Derived.Test.YtelpjfihadaomaaGreatDoorNamC
open Option (bind_some)
open List (length_nil)
open Bool (and_eq_true)
namespace Go.Proofs.YtelpjfihadaomaaGreatDoor.R
open Go Go.Bm Go.Proofs
set_option linter.unusedVariables false
set_option linter.unusedSimpArgs false
set_option maxRecDepth 4000
def a1M (u:Unt) (l:List Itm):Unt:=(u.1,u.2.1,u.2.2.1,u.2.2.2.1,u.2.2.2.2.1,u.2.2.2.2.2.1,u.2.2.2.2.2.2.1,l)
def K5 (U:Str → Option Unt) (u:Unt):Int ⊕ Unt :=
 if U u.2.1 ≠ none then .inl 9 else
 if a1Y [] (m9 u) = true then .inl 9 else
 match s5 U (nmP (m9 u)) u.2.2.2.2.2.2.2 [] with
 | .inl c => .inl c
 | .inr l => match P6 U (nmP (m9 u)) (gn l) ((nmP (m9 u)).drop u.2.2.1.length) ((nmP (m9 u)).drop u.2.2.1.length) u.2.2.2.2.2.2.1 with
   | .inl c => .inl c
   | .inr O => if O = [] then .inr (a1M u l) else .inl 8
structure UIn (u:Unt):Prop where
 i:u.2.2.1.length ≤ 200
 v:u.2.2.2.2.2.1.length ≤ 200
 q:u.2.2.2.2.2.2.1.length ≤ 200
 qe:∀ q ∈ u.2.2.2.2.2.2.1,q.2.length ≤ 1000000 ∧ a5d q.2
 x:u.2.2.2.2.2.2.2.length ≤ 200
 xe:∀ x ∈ u.2.2.2.2.2.2.2,x.2.1.length ≤ 1000 ∧ x.2.2.2.1.length ≤ 5000 ∧ x.2.2.2.2.1.length ≤ 5000 ∧ x.2.2.2.2.2.length ≤ 200 ∧ ∀ y ∈ x.2.2.2.2.2,y.length ≤ 200
theorem a9z {u:Unt} (h:UIn u):(m9 u).length ≤ 401:=by
 have:=h.i; have:=h.v
 unfold m9; split <;> simp <;> omega
theorem unit_eq {us:List Unt} (hus:∀ k ∈ us,UOk k) {u:Unt} (hu:UIn u) :
  ∃ z,b9U T.rf (UM us) [] [] [] u = some z ∧ Sp (fun c => (∃ t,z = .inl t ∧ t.2.2.2.2 = c) ∨ ∃ t,z = .inr (.inl t) ∧ t.2.2.2.2 = c) (fun u' => ∃ a b d,z = .inr (.inr (a,UM us,b,d,u'))) (K5 (fU us) u):=by
 have hbody:∀ z,(c2b T.rf T.rb (UM us) [] [] [] u = some z) → b9U T.rf (UM us) [] [] [] u = some z:=fun z hz => d7q hz
 have hl:=a9z hu
 have h7:∀ z,(b9d T.rf T.rb u false ([]:Str) [] ([]:Str) 0 [] [] (m9 u) (UM us) [] [] [] [] [] = some z) → c0E T.rb u false ([]:Str) [] ([]:Str) 0 [] [] (m9 u) (UM us) [] [] [] [] [] = some z:=fun z hz => d6O hz
 have hcl:=b1y (l:=u.2.2.1) (by have:=hu.i; omega)
 have hi:=hu.i
 have hv:=hu.v
 simp only [c2b,a2T,a0B,a2S,a0z,b2v,V0,bind_some] at hbody
 unfold K5
 cases hU:fU us u.2.1 with
 | some k =>
   simp only [hU,Option.isSome_some,Bool.not_true,Bool.false_eq_true,if_false] at hbody
   rw [if_pos (by simp)]
   exact ⟨_,hbody _ rfl,.inl ⟨_,rfl,rfl⟩⟩
 | none =>
   rw [if_neg (by simp)]
   simp only [hU,Option.isSome_none,Bool.not_false,if_true,hcl,bind_some] at hbody
   have hstr:∀ z,((c0E T.rb u false ([]:Str) [] ([]:Str) 0 [] [] (m9 u) (UM us) [] [] [] [] []) = some z) → b9U T.rf (UM us) [] [] [] u = some (match z with
     | .inl u6 => .inl (u6.2.2.2.2.2.2.2.2.2.1,u6.2.2.2.2.2.2.2.2.2.2.1,u6.2.2.2.2.2.2.2.2.2.2.2.1,u6.2.2.2.2.2.2.2.2.2.2.2.2.1,u6.2.2.2.2.2.2.2.2.2.2.2.2.2.2.2)
     | .inr (.inl u8) => .inr (.inl (u8.2.2.2.2.2.2.2.2.2.1,u8.2.2.2.2.2.2.2.2.2.2.1,u8.2.2.2.2.2.2.2.2.2.2.2.1,u8.2.2.2.2.2.2.2.2.2.2.2.2.2.2))
     | .inr (.inr (.inl u10)) => .inr (.inl (u10.2.2.2.2.2.2.2.2.2.2.2.2.2.2.2.1,u10.2.2.2.2.2.2.2.2.2.2.2.2.2.2.2.2.1,u10.2.2.2.2.2.2.2.2.2.2.2.2.2.2.2.2.2.1,u10.2.2.2.2.2.2.2.2.2.2.2.2.2.2.2.2.2.2.2.2))
     | .inr (.inr (.inr w11)) => .inr (.inr (w11.2.2.2.2.2.2.2.2.2.2.2.2.2.2.2.2.2.2.2.2.2,w11.2.2.2.2.2.2.2.2.2.2.2.2.2.2.2.2.1,w11.2.2.2.2.2.2.2.2.2.2.2.2.2.2.2.2.2.1,w11.2.2.2.2.2.2.2.2.2.2.2.2.2.2.2.2.2.2.1,w11.2.2.2.2.2.2.2.1,w11.2.2.2.2.2.2.2.2.1,w11.2.2.2.2.2.2.2.2.2.1,w11.2.2.2.2.2.2.2.2.2.2.1,w11.2.2.2.2.2.2.2.2.2.2.2.1,w11.2.2.2.2.2.2.2.2.2.2.2.2.1,w11.2.2.2.2.2.2.2.2.2.2.2.2.2.1,w11.2.2.2.2.2.2.2.2.2.2.2.2.2.2.2.2.2.2.2.2.2))):=by
    intro z hz
    refine hbody _ ?_
    cases h1:u.1 with
    | true =>
      have e:m9 u = u.2.2.1:=by rw [m9,if_pos h1]
      rw [e] at hz
      simp only [Bool.not_true,cond_false,hz,bind_some]
      rcases z with a | a | a | a <;> rfl
    | false =>
      have e:m9 u = (u.2.2.1 ++ [(u.2.2.2.1,u.2.2.2.2.1)]) ++ u.2.2.2.2.2.1:=by rw [m9,if_neg (by rw [h1]; decide)]
      rw [e] at hz
      simp only [Bool.not_false,cond_true,j5 (show u.2.2.1.length + 1 ≤ 274877906944 by omega),j5 (show (u.2.2.1 ++ [(u.2.2.2.1,u.2.2.2.2.1)]).length + u.2.2.2.2.2.1.length ≤ 274877906944 by simp; omega),Bool.and_true,hz,bind_some]
      rcases z with a | a | a | a <;> rfl
   obtain ⟨z0,s1,s2⟩:=d9p u (UM us) [] [] (m9 u).length (by omega) (m9 u) [] rfl
   have e0:SM ((nmP ([]:List Pm)).drop u.2.2.1.length) = []:=by simp [nmP,SM]
   have e1:SM (nmP ([]:List Pm)) = []:=rfl
   rw [e0,e1] at s1
   simp only [List.nil_append,length_nil] at s1 s2
   rw [show ((0:Nat):Int) = (0:Int) from rfl] at s1
   simp only [b9d,s1,bind_some] at h7
   cases hd:a1Y [] (m9 u) with
   | true =>
     rw [show nmP [] = [] from rfl,hd,if_pos rfl] at s2
     obtain ⟨u1,u2,u3,u4,u5,u6,u7,rfl⟩:=s2
     rw [if_pos rfl]
     exact ⟨_,hstr _ (h7 _ rfl),.inl ⟨_,rfl,rfl⟩⟩
   | false =>
     rw [show nmP [] = [] from rfl,hd,if_neg (by decide)] at s2
     subst s2
     rw [if_neg (by decide)]
     simp only at h7
     obtain ⟨z2,t1,t2⟩:=c0x hus (nmP (m9 u)) u.2.2.2.2.2.2.2.length (by have:=hu.x; omega) u.2.2.2.2.2.2.2 [] [] rfl (by simp) (fun x hx => by obtain ⟨a,b,c,d,e⟩:=hu.xe x hx; exact ⟨a,by omega,by omega,d,e⟩)
     rw [show SM (gn []) = [] from rfl] at t1
     simp only [List.nil_append,length_nil] at t1
     rw [show ((0:Nat):Int) = (0:Int) from rfl] at t1
     simp only [t1,bind_some] at h7
     revert t2
     cases hI:s5 (fU us) (nmP (m9 u)) u.2.2.2.2.2.2.2 [] with
     | inl c =>
       rintro ⟨u1,u2,u3,u4,rfl⟩
       exact ⟨_,hstr _ (h7 _ rfl),.inr ⟨_,rfl,rfl⟩⟩
     | inr l =>
       rintro rfl
       simp only at h7 ⊢
       have hcm:∀ m:Mb,d1B T.rf m = some (m,m):=fun m => d7D rfl
       obtain ⟨z6,q1,q2⟩:=d3M us (nmP (m9 u)) (gn l) ((nmP (m9 u)).drop u.2.2.1.length) l u.2.2.2.2.2.2.1.length (by have:=hu.q; omega) u.2.2.2.2.2.2.1 [] ((nmP (m9 u)).drop u.2.2.1.length) rfl hu.qe
       simp only [List.nil_append,length_nil] at q1
       rw [show ((0:Nat):Int) = (0:Int) from rfl] at q1
       simp only [hcm,bind_some,q1] at h7
       revert q2
       cases hE:P6 (fU us) (nmP (m9 u)) (gn l) ((nmP (m9 u)).drop u.2.2.1.length) ((nmP (m9 u)).drop u.2.2.1.length) u.2.2.2.2.2.2.1 with
       | inl c =>
         rintro ⟨u1,u2,u3,u4,u5,u6,rfl⟩
         exact ⟨_,hstr _ (h7 _ rfl),.inr ⟨_,rfl,rfl⟩⟩
       | inr O =>
         rintro rfl
         simp only [d2R,V0,bind_some] at h7
         by_cases hO:O = []
         · subst hO
           simp only [length_nil] at h7
           simp only [if_true]
           exact ⟨_,hstr _ (h7 _ rfl),_,_,_,rfl⟩
         · have:(((O.length:Nat):Int) == 0) = false:=bf (by have:=List.length_pos_iff.2 hO; omega)
           simp only [this,Bool.false_eq_true,if_false] at h7
           simp only [if_neg hO]
           exact ⟨_,hstr _ (h7 _ rfl),.inr ⟨_,rfl,rfl⟩⟩
def ItG (x:Itm):Prop:=x.2.1.length ≤ 1000 ∧ x.2.2.2.1.length ≤ 5000 ∧ x.2.2.2.2.1.length ≤ 5000
theorem a4C {e:List Nd} (h:s8 e = true):e.length ≤ 5000:=by
 unfold s8 at h
 simp only [and_eq_true,decide_eq_true_eq] at h
 exact h.2.1
theorem b3J {e:List Nd} {names:List Str} {by_:List (List Nd)} (h:(H7 e names by_).2 = true):(H7 e names by_).1.length ≤ 5000:=by
 unfold H7 at *
 split
 · simp
 · rename_i h0; rw [if_neg h0] at h; exact a4C h
theorem c3N {nm:Str} {names:List Str} {by_:List (List Nd)} {y y':Itm} (h:S5 nm names by_ y = .inr y'):ItG y':=by
 unfold S5 at h
 split at h
 · cases h
 rename_i hn
 split at h
 · rename_i h2
   cases h
   simp only [and_eq_true] at h2
   refine ⟨?_,b3J h2.1,b3J h2.2⟩
   by_cases h0:y.2.1 = []
   · simp [h0]
   · simp only [if_neg h0]
     have:m6 ((nm ++ [95]) ++ y.2.1) = true:=by
      cases hb:m6 ((nm ++ [95]) ++ y.2.1) with
      | true => rfl
      | false => exact absurd ⟨h0,hb⟩ hn
     have h3:((nm ++ [95]) ++ y.2.1).length ≤ 40:=by
      unfold m6 at this
      simp only [and_eq_true,decide_eq_true_eq] at this
      exact this.2.1
     omega
 · cases h
theorem a6r {S:List Str} {nm:Str} {names:List Str} {by_:List (List Nd)}:∀ {suf out l:List Itm},m7 S nm names by_ suf out = .inr l → (∀ y ∈ out,ItG y) → ∀ y ∈ l,ItG y
 | [],out,l,h,ho => by cases h; exact ho
 | y :: suf,out,l,h,ho => by
   simp only [m7] at h
   split at h
   · cases h
   rename_i y' hy
   split at h
   · cases h
   · rename_i l' ha
     have:=(G2 ha).2
     subst this
     exact a6r h (fun z hz => by
      rcases List.mem_append.1 hz with hz | hz
      · exact ho z hz
      · rw [List.mem_singleton.1 hz]; exact c3N hy)
theorem a4u {U:Str → Option Unt} {S:List Str}:∀ {suf out l:List Itm},s5 U S suf out = .inr l → (∀ x ∈ suf,ItG x) → (∀ y ∈ out,ItG y) → out.length ≤ 200 → (∀ y ∈ l,ItG y) ∧ l.length ≤ 200
 | [],out,l,h,hs,ho,hl => by cases h; exact ⟨ho,hl⟩
 | x :: suf,out,l,h,hs,ho,hl => by
   simp only [s5] at h
   split at h
   case isFalse => cases h
   split at h
   · cases h
   rename_i l' ha
   split at ha
   · refine a4u h (fun y hy => hs y (List.mem_cons_of_mem _ hy)) ?_ (Z9 ha hl)
     unfold B4 at ha
     split at ha
     · cases ha
     split at ha
     · split at ha
       · exact a6r ha ho
       · cases ha
     · cases ha
   · have h2:=G2 ha
     obtain ⟨h1,rfl⟩:=h2
     exact a4u h (fun y hy => hs y (List.mem_cons_of_mem _ hy)) (fun z hz => by
      rcases List.mem_append.1 hz with hz | hz
      · exact ho z hz
      · rw [List.mem_singleton.1 hz]; exact hs x List.mem_cons_self) h1
theorem S0 {U:Str → Option Unt} {u u':Unt} (h:K5 U u = .inr u'):U u.2.1 = none ∧ a1Y [] (m9 u) = false ∧ ∃ l,s5 U (nmP (m9 u)) u.2.2.2.2.2.2.2 [] = .inr l ∧ u' = a1M u l ∧
  P6 U (nmP (m9 u)) (gn l) ((nmP (m9 u)).drop u.2.2.1.length) ((nmP (m9 u)).drop u.2.2.1.length) u.2.2.2.2.2.2.1 = .inr []:=by
 unfold K5 at h
 split at h
 · cases h
 rename_i h1
 split at h
 · cases h
 rename_i h2
 split at h
 · cases h
 rename_i l hl
 split at h
 · cases h
 rename_i O hO
 split at h
 · rename_i h3
   subst h3
   cases h
   exact ⟨by simpa using h1,by simpa using h2,l,hl,rfl,hO⟩
 · cases h
theorem a5b {U:Str → Option Unt} {u u':Unt} (h:K5 U u = .inr u') (hu:UIn u):UOk u':=by
 obtain ⟨_,_,l,hl,rfl,_⟩:=S0 h
 obtain ⟨g1,g2⟩:=a4u hl (fun x hx => by obtain ⟨a,b,c,d,e⟩:=hu.xe x hx; exact ⟨a,b,c⟩) (by simp) (by simp)
 exact ⟨hu.i,g2,g1⟩
def B8:List Unt → List Unt → (Int × Int) ⊕ List Unt
 | done,[] => .inr done
 | done,u :: r => match K5 (fU done) u with
   | .inl c => .inl (c,((done.length:Nat):Int))
   | .inr u' => B8 (done ++ [u']) r
theorem d9j (mn bk:Str):∀ (suf done:List Unt),(done ++ suf).length ≤ 1000 → (∀ u ∈ suf,UIn u) → (∀ k ∈ done,UOk k) →
  ∃ z,b7O T.rb mn bk (done.length:Nat) (UM done) (done ++ suf) = some z ∧ Sp (fun ci => ∃ a b d e,z = .inl (a,b,ci.2,d,e,ci.1)) (fun us => ∃ at_,z = .inr (mn,bk,at_,UM us,us)) (B8 done suf)
 | [],done,h,hs,hd => ⟨.inr (mn,bk,((done.length:Nat):Int),UM done,done ++ []),c9F (by simp only [b7f,j9,cond_false]),((done.length:Nat):Int),by rw [List.append_nil]⟩
 | u :: suf,done,h,hs,hd => by
   have hp:done.length < 4611686018427387904:=by simp at h; omega
   have hbody:∀ z,(b7f T.rf T.rb mn bk (done.length:Nat) (UM done) (done ++ u :: suf) = some z) → b7O T.rb mn bk (done.length:Nat) (UM done) (done ++ u :: suf) = some z:=fun z hz => c9F hz
   have hu:=hs u List.mem_cons_self
   obtain ⟨z1,h1,h2⟩:=unit_eq hd hu
   have hblt:Nat.blt done.length (done ++ u :: suf).length = true:=a0v (by simp)
   simp only [b7f,g8,a5,a6,cond_true,bind_some,h1,Int.toNat_natCast,Y7,hblt] at hbody
   simp only [B8]
   revert h2
   cases hU:K5 (fU done) u with
   | inl c =>
     rintro (⟨t,rfl,rfl⟩ | ⟨t,rfl,rfl⟩)
     · exact ⟨_,hbody _ rfl,_,_,_,_,rfl⟩
     · exact ⟨_,hbody _ rfl,_,_,_,_,rfl⟩
   | inr u' =>
     rintro ⟨a,b,d,rfl⟩
     obtain ⟨k1,_,l,_,k4,_⟩:=S0 hU
     have hnm:u'.2.1 = u.2.1:=by rw [k4]; rfl
     obtain ⟨z,h3,h4⟩:=d9j mn bk suf (done ++ [u']) (by simpa using h) (fun y hy => hs y (List.mem_cons_of_mem _ hy)) (fun k hk => by
      rcases List.mem_append.1 hk with hk | hk
      · exact hd k hk
      · rw [List.mem_singleton.1 hk]; exact a5b hU hu)
     have hset:pM (UM done) u'.2.1 u' = UM (done ++ [u']):=c2J done u' (by rw [hnm]; exact k1)
     simp only [List.append_assoc,List.singleton_append] at h3
     refine ⟨z,hbody z ?_,h4⟩
     simp only [a1t,e9 done u' hp]
     rw [← h3]
     congr 1
theorem a0S:∀ {suf done us:List Unt},B8 done suf = .inr us → (∀ u ∈ suf,UIn u) → (∀ k ∈ done,UOk k) → ∀ k ∈ us,UOk k
 | [],done,us,h,hs,hd => by cases h; exact hd
 | u :: suf,done,us,h,hs,hd => by
   simp only [B8] at h
   split at h
   · cases h
   rename_i u' hU
   exact a0S h (fun y hy => hs y (List.mem_cons_of_mem _ hy)) (fun k hk => by
    rcases List.mem_append.1 hk with hk | hk
    · exact hd k hk
    · rw [List.mem_singleton.1 hk]; exact a5b hU (hs u List.mem_cons_self))
theorem d3L (N:Nat) (hN:N ≤ 1000000):∀ (s t p q:List Pm),N = (p ++ s).length → p.length = q.length → s.length = t.length →
  c3U T.rb (p ++ s) (q ++ t) (N:Nat) (p.length:Nat) = some (if s = t then .inr () else .inl false)
 | [],[],p,q,h,hp,hs => c9G (by simp only [b9g,J1 p h,cond_false]; rfl)
 | [],_ :: _,p,q,h,hp,hs => by simp at hs
 | _ :: _,[],p,q,h,hp,hs => by simp at hs
 | x :: s,y :: t,p,q,h,hp,hs => c9G (by
   have hpl:p.length < 4611686018427387904:=by simp at h; omega
   have ih:=d3L N hN s t (p ++ [x]) (q ++ [y]) (by simpa using h) (by simp; omega) (by simpa using hs)
   simp only [List.append_assoc,List.singleton_append] at ih
   have hq1:inb ((p.length:Nat):Int) (q ++ y :: t).length = true:=by rw [hp]; exact a5 q y t
   have hq2:nth (q ++ y :: t) ((p.length:Nat):Int).toNat = some y:=by rw [hp]; exact a6 q y t
   simp only [b9g,J2 p x s h,a5,a6,hq1,hq2,cond_true,bind_some,e9 p x hpl,ih]
   by_cases hxy:x = y
   · subst hxy
     have e1:(x.1 == x.1) = true:=beq_self_eq_true _
     have e2:(x.2 == x.2) = true:=beq_self_eq_true _
     simp only [e1,e2,Bool.and_self,Bool.not_true,cond_false,List.cons.injEq,true_and]
   · have hne:¬ (x :: s = y :: t):=fun g => hxy (List.cons.inj g).1
     have:((x.1 == y.1) && (x.2 == y.2)) = false:=by
      cases h1:(x.1 == y.1) with
      | false => rfl
      | true =>
        cases h2:(x.2 == y.2) with
        | false => rfl
        | true => exact absurd (Prod.ext (eq_of_beq h1) (eq_of_beq h2)) hxy
     rw [this,if_neg hne]
     rfl)
theorem d1T {a b:List Pm} (ha:a.length ≤ 1000000):c3m T.rf a b = some (decide (a = b)):=d7G (by
 by_cases hl:a.length = b.length
 · have:=d3L a.length ha a b [] [] rfl rfl hl
   simp only [List.nil_append,length_nil] at this
   rw [show ((0:Nat):Int) = (0:Int) from rfl] at this
   simp only [c2f,nbt (show ((a.length:Nat):Int) = ((b.length:Nat):Int) by omega),cond_false,this,bind_some]
   by_cases hab:a = b
   · rw [if_pos hab,dt hab]
   · rw [if_neg hab,df hab]
 · simp only [c2f,nbf (show ((a.length:Nat):Int) ≠ ((b.length:Nat):Int) by omega),cond_true]
   rw [df (fun g => hl (by rw [g]))])
def X5:Prg:=([],([]:Str),([]:Str))
def b2o (b m:Unt):Bool:=decide (b.2.2.1 = m.2.2.1) && ((b.2.2.2.1 == m.2.2.2.1) && (b.2.2.2.2.1 == m.2.2.2.2.1))
def b3b (us:List Unt) (mn bk:Str):Prg × Int × Int:=match fU us mn with
 | none => (X5,8,-1)
 | some m => if m.1 = true then (X5,8,-1) else if bk = [] then ((us,mn,bk),0,0) else match fU us bk with
   | none => (X5,14,-1)
   | some b => if b.1 = true then (X5,14,-1) else if b2o b m = true then ((us,mn,bk),0,0) else (X5,14,-1)
def m8 (p:Prg):Prg × Int × Int:=if S3 p = true then (match B8 [] (D9 p).1 with
 | .inl ci => (X5,ci.1,ci.2)
 | .inr us => b3b us p.2.1 p.2.2) else (X5,1,-1)
theorem a4H {p:Prg} (hs:SzP 200 200 p) (h:S3 p = true):∀ u ∈ (D9 p).1,UIn u:=by
 intro u hu
 obtain ⟨v,hv,rfl⟩:=List.mem_map.1 hu
 have hvs:=hs.u v hv
 have hF:=unF ((pgF h).u v hv)
 refine ⟨hF.i,hF.v,by simpa [K4] using hF.q,fun q hq => ?_,by simpa [K4] using hF.x,fun x hx => ?_⟩
 · obtain ⟨q0,hq0,rfl⟩:=List.mem_map.1 hq
   have:=(eqF (hF.qb q0 hq0)).2
   have hm:s8 q0.2 = true:=by unfold D5 at this; simp only [and_eq_true] at this; exact this.1
   exact ⟨by show (norm q0.2).length ≤ 1000000; have:=Y6 (e:=q0.2); omega,b0V hm⟩
 · obtain ⟨x0,hx0,rfl⟩:=List.mem_map.1 hx
   have hxs:=hvs.xe x0 hx0
   have hmy:∀ e:List Nd,D5 e = true → (norm e).length = e.length ∧ e.length ≤ 5000:=fun e he => by
    have hm:s8 e = true:=by unfold D5 at he; simp only [and_eq_true] at he; exact he.1
    exact ⟨(K2 hm).2.1,a4C hm⟩
   have h0:(norm ([]:List Nd)).length ≤ 5000:=by
    have:norm ([]:List Nd) = []:=a0J
    rw [this]; simp
   have nl:∀ s:Str,m6 s = true → s.length ≤ 1000:=fun s hn => by
    unfold m6 at hn
    simp only [and_eq_true,decide_eq_true_eq] at hn
    have:=hn.2.1; omega
   have key:x0.2.1.length ≤ 1000 ∧ (norm x0.2.2.2.1).length ≤ 5000 ∧ (norm x0.2.2.2.2.1).length ≤ 5000 ∧ ∀ y ∈ x0.2.2.2.2.2,D5 y = true:=by
    cases itF (hF.xb x0 hx0) with
    | ag k nm ty e f a => exact ⟨by rw [nm]; simp,by have:=hmy _ e; omega,by rw [f]; exact h0,by rw [a]; simp⟩
    | gh k nm ty e f a => exact ⟨nl _ nm,by have:=hmy _ e; omega,by rw [f]; exact h0,by rw [a]; simp⟩
    | md k nm ty e f a => exact ⟨nl _ nm,by have:=hmy _ e; omega,by have:=hmy _ f; omega,by rw [a]; simp⟩
    | im k nm ty e f l a => exact ⟨nl _ nm,by rw [e]; exact h0,by rw [f]; exact h0,a⟩
   refine ⟨key.1,key.2.1,key.2.2.1,by simpa [K3] using hxs.c,fun y hy => ?_⟩
   obtain ⟨y0,hy0,rfl⟩:=List.mem_map.1 hy
   have h1:=hmy y0 (key.2.2.2 y0 hy0)
   have h2:=hxs.a y0 hy0
   omega
theorem a7C {m:Nat} {p:Prg} (hs:SzP 200 m p) (hm:m ≤ 1000000) (hin:S3 p = true → ∀ u ∈ (D9 p).1,UIn u):c66 T.rf p = some (m8 p):=e2I (by
 simp only [r66,b8N hs (by omega) hm,bind_some]
 unfold m8
 cases hp:S3 p with
 | false => rfl
 | true =>
   have hin:=hin hp
   obtain ⟨z,h1,h2⟩:=d9j p.2.1 p.2.2 (D9 p).1 [] (by have:=hs.c; simp [D9]; omega) hin (by simp)
   simp only [List.nil_append,length_nil] at h1
   rw [show ((0:Nat):Int) = (0:Int) from rfl,show UM [] = [] from rfl] at h1
   have hord:=b4u hs (by omega) hm
   simp only [Bool.not_true,cond_false,hord,bind_some,if_true]
   have h1':b7O T.rb (D9 p).2.1 (D9 p).2.2 0 [] (D9 p).1 = some z:=h1
   rw [h1']
   simp only [bind_some]
   revert h2
   cases hU:B8 [] (D9 p).1 with
   | inl ci =>
     rintro ⟨a,b,d,e,rfl⟩
     rfl
   | inr us =>
     rintro ⟨at_,rfl⟩
     simp only [a2T,a0B,a2S,a0z,b2v,b5N,V0,bind_some,b3b]
     cases hm:fU us p.2.1 with
     | none => rfl
     | some m =>
       simp only [Option.isSome_some,cond_true,Option.getD_some]
       rcases Bool.eq_false_or_eq_true m.1 with hm1 | hm1
       · simp only [hm1,Bool.not_true,Bool.false_eq_true,if_false,if_true]
         rfl
       · simp only [hm1,Bool.not_false,if_true,Bool.false_eq_true,if_false]
         by_cases hb:p.2.2 = []
         · have:(p.2.2 == ([]:Str)) = true:=beq_iff_eq.2 hb
           simp only [this,Bool.not_true,cond_false,if_pos hb]
         · have:(p.2.2 == ([]:Str)) = false:=beq_eq_false_iff_ne.2 hb
           simp only [this,Bool.not_false,cond_true,if_neg hb]
           cases hbk:fU us p.2.2 with
           | none => rfl
           | some b =>
             simp only [Option.isSome_some,cond_true,Option.getD_some]
             rcases Bool.eq_false_or_eq_true b.1 with hb1 | hb1
             · simp only [hb1,Bool.not_true,cond_false,a0m,Bool.false_eq_true,if_false,if_true,bind_some]
               rfl
             · have hbm:b ∈ us:=List.mem_of_find?_eq_some hbk
               have hbl:b.2.2.1.length ≤ 1000000:=by
                have:=a0S hU hin (by simp) b hbm
                have:=this.i; omega
               simp only [hb1,Bool.not_false,cond_true,d1T hbl,bind_some,Bool.false_eq_true,if_false,b2o]
               by_cases hin2:b.2.2.1 = m.2.2.1
               · simp only [dt hin2,cond_true,Bool.true_and]
                 rcases Bool.eq_false_or_eq_true ((b.2.2.2.1 == m.2.2.2.1) && (b.2.2.2.2.1 == m.2.2.2.2.1)) with hq | hq
                 · simp only [hq,if_true]
                 · simp only [hq,Bool.false_eq_true,if_false]; rfl
               · simp only [df hin2,cond_false,Bool.false_and,Bool.false_eq_true,if_false]; rfl)
theorem K7 {p:Prg} (hs:SzP 200 200 p):c66 T.rf p = some (m8 p):=a7C hs (by omega) (a4H hs)
end Go.Proofs.YtelpjfihadaomaaGreatDoor.R
