import Derived.Test.YtelpjfihadaomaaGreatDoorNamE
open Option (bind_some)
open List (length_append length_cons length_nil)
namespace Go.Proofs.YtelpjfihadaomaaGreatDoor.R
open Go Go.Bm Go.Proofs
set_option linter.unusedVariables false
set_option linter.unusedSimpArgs false
set_option maxRecDepth 4000
def nmU (l:List Unt):List Str:=l.map (·.2.1)
def ixU (l:List Unt) (n:Str):Int:=j7 n (nmU l) 0
theorem a4E (u:Unt) (l:List Unt):nmU (u :: l) = u.2.1 :: nmU l:=rfl
theorem a8m (n:Str) (rest:List Unt):∀ (done:List Unt) (o:Nat),(fU done n = none ∧ (j7 n (nmU (done ++ rest)) o = -1 ∨ ((o + done.length:Nat):Int) ≤ j7 n (nmU (done ++ rest)) o)) ∨
  ∃ u i,fU done n = some u ∧ j7 n (nmU (done ++ rest)) o = ((o + i:Nat):Int) ∧ done[i]? = some u
 | [],o => .inl ⟨rfl,by
    rcases G7 n (nmU ([] ++ rest)) o with h | h
    · exact .inl h
    · exact .inr (by simpa using h.1)⟩
 | y :: done,o => by
   rw [List.cons_append,a4E,j7]
   by_cases e:y.2.1 = n
   · rw [if_pos e]
     refine .inr ⟨y,0,?_,by simp,rfl⟩
     simp [fU,e]
   · rw [if_neg e]
     have hb:(y.2.1 == n) = false:=beq_eq_false_iff_ne.2 e
     have hf:fU (y :: done) n = fU done n:=by simp [fU,List.find?_cons,hb]
     rw [hf]
     rcases a8m n rest done (o + 1) with ⟨h1,h2⟩ | ⟨u,i,h1,h2,h3⟩
     · refine .inl ⟨h1,?_⟩
       rcases h2 with h2 | h2
       · exact .inl h2
       · exact .inr (by simp only [length_cons]; omega)
     · exact .inr ⟨u,i + 1,h1,by rw [h2]; congr 1; omega,by simpa using h3⟩
theorem V6 (n:Str) (done rest:List Unt):(fU done n = none ∧ (ixU (done ++ rest) n < 0 ∨ ((done.length:Nat):Int) ≤ ixU (done ++ rest) n)) ∨
  ∃ (u:Unt) (i:Nat),fU done n = some u ∧ ixU (done ++ rest) n = ((i:Nat):Int) ∧ i < done.length ∧ nth (done ++ rest) i = some u:=by
 rcases a8m n rest done 0 with ⟨h1,h2⟩ | ⟨u,i,h1,h2,h3⟩
 · refine .inl ⟨h1,?_⟩
   rcases h2 with h2 | h2
   · exact .inl (by unfold ixU; omega)
   · exact .inr (by unfold ixU; simpa using h2)
 · have hi:i < done.length:=(List.getElem?_eq_some_iff.1 h3).1
   exact .inr ⟨u,i,h1,by unfold ixU; simpa using h2,hi,by rw [nth_getElem?,List.getElem?_append_left hi]; exact h3⟩
theorem a9e (mn bk n:Str):∀ (suf pre:List Unt),(pre ++ suf).length ≤ 1000000 → c3Z T.rb mn bk (pre ++ suf) n (pre.length:Nat) = some (if j7 n (nmU suf) pre.length = -1 then .inr (mn,bk,pre ++ suf) else .inl (mn,bk,pre ++ suf,j7 n (nmU suf) pre.length))
 | [],pre,h => c9U (by simp only [b9t,j9,cond_false]; rfl)
 | x :: suf,pre,h => c9U (by
   have hp:pre.length < 4611686018427387904:=by simp at h; omega
   have ih:=a9e mn bk n suf (pre ++ [x]) (by simpa using h)
   simp only [List.append_assoc,List.singleton_append] at ih
   have hl:(pre ++ [x]).length = pre.length + 1:=by simp
   rw [hl] at ih
   simp only [b9t,g8,a5,a6,cond_true,bind_some,H5 hp,ih,bs]
   rw [a4E,j7]
   by_cases e:x.2.1 = n
   · rw [dt e,if_pos e,if_neg (show ¬ ((pre.length:Nat):Int) = -1 by omega)]; rfl
   · rw [df e,if_neg e]; rfl)
theorem a4V {us:List Unt} (h:us.length ≤ 1000000) (mn bk n:Str):a9O T.rf us mn bk n = some (us,ixU us n):=d8b (by
 have:=a9e mn bk n us [] (by simpa using h)
 simp only [List.nil_append,length_nil] at this
 rw [show ((0:Nat):Int) = (0:Int) from rfl] at this
 simp only [c5u,this,bind_some]
 unfold ixU
 by_cases e:j7 n (nmU us) 0 = -1
 · rw [if_pos e,e]
 · rw [if_neg e])
theorem a6L (p:Prg) (n:Str):∀ (suf pre:List Unt),p.1 = pre ++ suf → (pre ++ suf).length ≤ 1000000 → c4n T.rb p n (pre.length:Nat) = some (if j7 n (nmU suf) pre.length = -1 then .inr p else .inl (p,j7 n (nmU suf) pre.length))
 | [],pre,hp,h => d0n (by simp only [b9J,hp,j9,cond_false]; rfl)
 | x :: suf,pre,hp,h => d0n (by
   have hpl:pre.length < 4611686018427387904:=by simp at h; omega
   have ih:=a6L p n suf (pre ++ [x]) (by simpa using hp) (by simpa using h)
   have hl:(pre ++ [x]).length = pre.length + 1:=by simp
   rw [hl] at ih
   simp only [b9J,hp,g8,a5,a6,cond_true,bind_some,H5 hpl,ih,bs]
   rw [a4E,j7]
   by_cases e:x.2.1 = n
   · rw [dt e,if_pos e,if_neg (show ¬ ((pre.length:Nat):Int) = -1 by omega)]; rfl
   · rw [df e,if_neg e]; rfl)
theorem b8u {p:Prg} (h:p.1.length ≤ 1000000) (n:Str):d1Q T.rf p n = some (ixU p.1 n):=d8t (by
 have:=a6L p n p.1 [] rfl (by simpa using h)
 rw [length_nil,show ((0:Nat):Int) = (0:Int) from rfl] at this
 simp only [c5I,this,bind_some]
 unfold ixU
 by_cases e:j7 n (nmU p.1) 0 = -1
 · rw [if_pos e,e]
 · rw [if_neg e])
theorem a8K (n:Str) (N:Nat) (hN:N ≤ 1000000):∀ (suf pre:List Unt),N = (pre ++ suf).length → c3V T.rb n (pre ++ suf) (N:Nat) (pre.length:Nat) = some (if j7 n (nmU suf) pre.length = -1 then .inr n else .inl (n,j7 n (nmU suf) pre.length))
 | [],pre,h => c9H (by simp only [b9h,J1 pre h,cond_false]; rfl)
 | x :: suf,pre,h => c9H (by
   have hpl:pre.length < 4611686018427387904:=by simp at h; omega
   have ih:=a8K n N hN suf (pre ++ [x]) (by simpa using h)
   simp only [List.append_assoc,List.singleton_append] at ih
   have hl:(pre ++ [x]).length = pre.length + 1:=by simp
   rw [hl] at ih
   have h1:d1F T.rf n x = some (n,x.2.1 == n):=d7J rfl
   simp only [b9h,J2 pre x suf h,a5,a6,cond_true,bind_some,H5 hpl,h1,ih,bs]
   rw [a4E,j7]
   by_cases e:x.2.1 = n
   · rw [dt e,if_pos e,if_neg (show ¬ ((pre.length:Nat):Int) = -1 by omega)]; rfl
   · rw [df e,if_neg e]; rfl)
theorem c1c {p:Prg} (h:p.1.length ≤ 1000000) (n:Str):b9X T.rf p n = some (ixU p.1 n):=d7H (by
 have h2:d1E T.rf n p.1 = some (n,ixU p.1 n):=d7I (by
  have:=a8K n p.1.length h p.1 [] rfl
  rw [length_nil,show ((0:Nat):Int) = (0:Int) from rfl,List.nil_append] at this
  simp only [c5d,this,bind_some]
  unfold ixU
  by_cases e:j7 n (nmU p.1) 0 = -1
  · rw [if_pos e,e]
  · rw [if_neg e])
 simp only [c5c,h2,bind_some])
theorem b2m {u:Unt} (h1:u.2.2.1.length ≤ 200) (h2:u.2.2.2.2.2.1.length ≤ 200):b7u T.rf u = some (m9 u):=d8c (by
 simp only [c5v,j5 (show u.2.2.1.length ≤ 274877906944 by omega),j5 (show u.2.2.1.length + 1 ≤ 274877906944 by omega),j5 (show (u.2.2.1 ++ [(u.2.2.2.1,u.2.2.2.2.1)]).length + u.2.2.2.2.2.1.length ≤ 274877906944 by simp; omega),Bool.and_true,cond_true,m9]
 cases u.1 <;> rfl)
theorem b6B (mn bk:Str) {done rest:List Unt} (hus:∀ k ∈ done,UOk k) (hl:(done ++ rest).length ≤ 1000) (u:Unt) (hux:u.2.2.2.2.2.2.2.length ≤ 1000) {S:List Pm} (hS:S.length ≤ 1000000):∀ (suf pre its:List Itm),u.2.2.2.2.2.2.2 = pre ++ suf → its.length ≤ 200 →
  (∀ x ∈ suf,x.2.1.length ≤ 1000 ∧ x.2.2.2.1.length ≤ 1000000 ∧ x.2.2.2.2.1.length ≤ 1000000 ∧ x.2.2.2.2.2.length ≤ 200 ∧ ∀ y ∈ x.2.2.2.2.2,y.length ≤ 200) →
  ∃ z,a9T T.rb mn bk u its (done ++ rest) (done.length:Nat) S (pre.length:Nat) = some z ∧ Sp (fun c => z = .inl (mn,bk,u,done ++ rest,[],c) ∧ c ≠ 0) (fun l => z = .inr (mn,bk,u,done ++ rest,l)) (s5 (fU done) (nmP S) suf its)
 | [],pre,its,h,hi,hs => ⟨_,d0h (by simp only [b7l,h,j9,cond_false]),rfl⟩
 | x :: suf,pre,its,h,hi,hs => by
   have hp:pre.length ≤ 1000:=by have:=congrArg List.length h; simp at this; omega
   obtain ⟨x1,x2,x3,x4,x5⟩:=hs x List.mem_cons_self
   have hbody:∀ z,(b7l T.rf T.rb mn bk u its (done ++ rest) (done.length:Nat) S (pre.length:Nat) = some z) → a9T T.rb mn bk u its (done ++ rest) (done.length:Nat) S (pre.length:Nat) = some z:=fun z hz => d0h hz
   simp only [b7l,h,g8,a5,a6,cond_true,bind_some,e9 pre x (by omega),b8w (show its.length ≤ 1000 by omega) hS x2 x3 (show x.2.2.2.2.2.length ≤ 1000 by omega) (fun y hy => by have:=x5 y hy; omega),a4V (show (done ++ rest).length ≤ 1000000 by omega),b6y (show its.length ≤ 1000 by omega) hS] at hbody
   have next:∀ l:List Itm,l.length ≤ 200 → ∃ z,a9T T.rb mn bk u l (done ++ rest) (done.length:Nat) S (((pre ++ [x]).length:Nat):Int) = some z ∧ Sp (fun c => z = .inl (mn,bk,u,done ++ rest,[],c) ∧ c ≠ 0) (fun l => z = .inr (mn,bk,u,done ++ rest,l)) (s5 (fU done) (nmP S) suf l):=fun l hl' =>
    b6B mn bk hus hl u hux hS suf (pre ++ [x]) l (by simpa using h) hl' (fun y hy => hs y (List.mem_cons_of_mem _ hy))
   by_cases hk:S1 (nmP S) (gn its) x = 0
   case neg =>
    rw [nbf hk] at hbody
    rw [show s5 (fU done) (nmP S) (x :: suf) its = .inl (S1 (nmP S) (gn its) x) from by rw [s5,if_neg hk]]
    exact ⟨_,hbody _ rfl,rfl,hk⟩
   rw [nbt hk] at hbody
   simp only [cond_false] at hbody
   by_cases h5:x.1 = 5
   · rw [bt h5] at hbody
     simp only [cond_true] at hbody
     have hI:∀ r,B4 (fU done) (nmP S) its x = r → s5 (fU done) (nmP S) (x :: suf) its = (match r with
      | .inl c => .inl c
      | .inr l => s5 (fU done) (nmP S) suf l):=fun r hr => by rw [s5,if_pos hk,if_pos h5,hr]; cases r <;> rfl
     rcases V6 x.2.1 done rest with ⟨f1,f2⟩ | ⟨k,i,f1,f2,f3,f4⟩
     · have hb8:a9T T.rb mn bk u its (done ++ rest) (done.length:Nat) S (pre.length:Nat) = some (.inl (mn,bk,u,done ++ rest,[],8)):=hbody _ (by
        rcases f2 with f2 | f2
        · rw [dt f2]; rfl
        · rw [dt (show ixU (done ++ rest) x.2.1 ≥ ((done.length:Nat):Int) from f2)]
          cases decide (ixU (done ++ rest) x.2.1 < 0) <;> rfl)
       rw [hI (.inl 8) (by simp only [B4,f1])]
       exact ⟨_,hb8,rfl,by decide⟩
     · have hko:UOk k:=hus k (List.mem_of_find?_eq_some f1)
       rw [f2,df (show ¬ ((i:Nat):Int) < 0 by omega),df (show ¬ ((i:Nat):Int) ≥ ((done.length:Nat):Int) by omega)] at hbody
       have hil:i < (done ++ rest).length:=by simp; omega
       simp only [cond_false,B5,dt hil,cond_true,Int.toNat_natCast,f4,bind_some] at hbody
       rcases Bool.eq_false_or_eq_true k.1 with k1 | k1
       · rw [k1] at hbody
         simp only [Bool.not_true,cond_false] at hbody
         obtain ⟨z,g1,g2⟩:=b2l (show its.length ≤ 1000 by omega) hko x1 x5 hS
         have hii:B4 (fU done) (nmP S) its x = c0v (nmP S) its k x:=by simp only [B4,f1,k1,if_true,c0v]
         simp only [g1,bind_some] at hbody
         revert g2
         cases hP:c0v (nmP S) its k x with
         | inl c =>
           have hc:c ≠ 0:=a6o (hii.trans hP)
           rw [hI (.inl c) (hii.trans hP)]
           rintro ⟨l,rfl | rfl⟩
           · simp only [nbf hc,cond_true] at hbody
             exact ⟨_,hbody _ rfl,rfl,hc⟩
           · simp only [nbf hc,cond_true] at hbody
             exact ⟨_,hbody _ rfl,rfl,hc⟩
         | inr l =>
           rw [hI (.inr l) (hii.trans hP)]
           rintro rfl
           have hb0:((0:Int) != 0) = false:=rfl
           simp only [hb0,cond_false] at hbody
           obtain ⟨z,n1,n2⟩:=next l (Z9 (hii.trans hP) hi)
           exact ⟨z,hbody z n1,n2⟩
       · rw [k1] at hbody
         simp only [Bool.not_false,cond_true] at hbody
         rw [hI (.inl 8) (by simp only [B4,f1,k1,Bool.false_eq_true,if_false])]
         exact ⟨_,hbody _ rfl,rfl,by decide⟩
   · rw [bf h5] at hbody
     simp only [cond_false] at hbody
     cases hA:H6 (nmP S) its x with
     | inl c =>
       have hc:=a4d hA
       simp only [hA,nbf hc,cond_true] at hbody
       rw [show s5 (fU done) (nmP S) (x :: suf) its = .inl c from by rw [s5,if_pos hk,if_neg h5,hA]]
       exact ⟨_,hbody _ rfl,rfl,hc⟩
     | inr l =>
       have hb0:((0:Int) != 0) = false:=rfl
       simp only [hA,hb0,cond_false] at hbody
       rw [show s5 (fU done) (nmP S) (x :: suf) its = s5 (fU done) (nmP S) suf l from by rw [s5,if_pos hk,if_neg h5,hA]]
       obtain ⟨z,n1,n2⟩:=next l (G2 hA).1
       exact ⟨z,hbody z n1,n2⟩
theorem b8v (mn bk:Str) {done rest:List Unt} (hus:∀ k ∈ done,UOk k) {u:Unt} (hl:(done ++ u :: rest).length ≤ 1000) (hu:UIn u) :
  ∃ l c,c3t T.rf (done ++ u :: rest) mn bk (done.length:Nat) = some (done ++ u :: rest,l,c) ∧ Sp (fun e => c = e ∧ e ≠ 0) (fun l' => l = l' ∧ c = 0) (s5 (fU done) (nmP (m9 u)) u.2.2.2.2.2.2.2 []):=by
 have hsl:=a9z hu
 obtain ⟨z,h1,h2⟩:=b6B mn bk hus hl u (by have:=hu.x; omega) (show (m9 u).length ≤ 1000000 by omega) u.2.2.2.2.2.2.2 [] [] rfl (by simp) (fun x hx => by obtain ⟨a,b,c,d,e⟩:=hu.xe x hx; exact ⟨a,by omega,by omega,d,e⟩)
 rw [length_nil,show ((0:Nat):Int) = (0:Int) from rfl] at h1
 have hbody:∀ y,(c2h T.rf T.rb (done ++ u :: rest) mn bk (done.length:Nat) = some y) → c3t T.rf (done ++ u :: rest) mn bk (done.length:Nat) = some y:=fun y hy => d8e hy
 simp only [c2h,a5,a6,cond_true,bind_some,b2m hu.i hu.v,h1] at hbody
 revert h2
 cases s5 (fU done) (nmP (m9 u)) u.2.2.2.2.2.2.2 [] with
 | inl e =>
   rintro ⟨rfl,he⟩
   exact ⟨_,_,hbody _ rfl,rfl,he⟩
 | inr l =>
   rintro rfl
   exact ⟨_,_,hbody _ rfl,rfl,rfl⟩
theorem a8X {e:List Nd} (he:e.length ≤ 1000000) (hB:a5d e):∀ (f:Nat) (i c:Int),i < f → i < e.length → f ≤ 1000000 → -1 ≤ i → 0 ≤ c → c + f ≤ 2000000 → c4h T.rb e c i = some (c + N3 e f i)
 | 0,i,c,h1,h2,h3,h4,h5,h6 => d0j (by
   simp only [b7m,df (show ¬ i ≥ 0 by omega),cond_false,N3]; simp)
 | f + 1,i,c,h1,h2,h3,h4,h5,h6 => d0j (by
   by_cases hi:0 ≤ i
   · obtain ⟨m,rfl⟩:=Int.eq_ofNat_of_zero_le hi
     have hm:m < e.length:=by omega
     have hn:nth e m = some e[m]:=a1D hm
     obtain ⟨_,hb⟩:=hB m e[m] hn
     have ih:=a8X he hB f e[m].2.2.1 (c + 1) (by rcases hb with g | g <;> omega) (by rcases hb with g | g <;> omega) (by omega) (by rcases hb with g | g <;> omega) (by omega) (by omega)
     simp only [b7m,dt (show ((m:Nat):Int) ≥ 0 by omega),cond_true,B5,dt hm,Int.toNat_natCast,hn,bind_some,wr (show -9223372036854775808 ≤ c + 1 ∧ c + 1 ≤ 9223372036854775807 by omega),ih,N3,if_pos hi]
     congr 1; omega
   · simp only [b7m,df (show ¬ i ≥ 0 by omega),cond_false,N3,if_neg hi]; simp)
theorem c2k {e:List Nd} (he:e.length ≤ 1000000) (hB:a5d e) {i:Nat} {n:Nd} (hn:nth e i = some n):b7w T.rf e (i:Nat) = some (N3 e e.length n.2.1):=d8r (by
 have hi:i < e.length:=by rw [nth_getElem?] at hn; exact (List.getElem?_eq_some_iff.1 hn).1
 obtain ⟨ha,_⟩:=hB i n hn
 have:=a8X he hB e.length n.2.1 0 (by rcases ha with g | g <;> omega) (by rcases ha with g | g <;> omega) he (by rcases ha with g | g <;> omega) (by omega) (by omega)
 simp only [c5G,B5,dt hi,cond_true,Int.toNat_natCast,hn,this,bind_some]; congr 1; omega)
theorem a9g (mn bk:Str) {done rest:List Unt} (hl:(done ++ rest).length ≤ 1000) (u:Unt) (h1:u.2.2.1.length ≤ 200) (h2:u.2.2.2.2.2.1.length ≤ 200) (hx:u.2.2.2.2.2.2.2.length ≤ 1000) {e:List Nd} (he:e.length ≤ 1000000) (hB:a5d e):∀ (suf pre:List Nd),e = pre ++ suf →
  a8q T.rb mn bk u (done ++ rest) (done.length:Nat) e (pre.length:Nat) = some (if s9 (fU done) (nmP (m9 u)) (gn u.2.2.2.2.2.2.2) e suf = 0 then .inr (mn,bk,u,done ++ rest) else .inl (mn,bk,u,done ++ rest,s9 (fU done) (nmP (m9 u)) (gn u.2.2.2.2.2.2.2) e suf))
 | [],pre,h => d0i (by
   have:decide (((pre.length:Nat):Int) < ((e.length:Nat):Int)) = false:=by rw [h]; exact j9 pre
   simp only [b9G,this,cond_false]; rfl)
 | n :: suf,pre,h => d0i (by
   have hp:pre.length < 4611686018427387904:=by have:=congrArg List.length h; simp at this; omega
   have hlt:decide (((pre.length:Nat):Int) < ((e.length:Nat):Int)) = true:=by rw [h]; exact g8 pre n suf
   have hin:inb ((pre.length:Nat):Int) e.length = true:=by rw [h]; exact a5 pre n suf
   have hnt:nth e ((pre.length:Nat):Int).toNat = some n:=by rw [h]; exact a6 pre n suf
   have hnt':nth e pre.length = some n:=by rwa [Int.toNat_natCast] at hnt
   have ih:=a9g mn bk hl u h1 h2 hx he hB suf (pre ++ [n]) (by simpa using h)
   have hg:=a1b u.2.2.2.2.2.2.2
   have hsl:(m9 u).length ≤ 1000000:=by unfold m9; split <;> (try simp only [length_append,length_cons,length_nil]) <;> omega
   simp only [b9G,hlt,hin,hnt,cond_true,bind_some,e9 pre n hp,b2k (show u.2.2.2.2.2.2.2.length ≤ 1000000 by omega),V3 (show (ghP u.2.2.2.2.2.2.2).length ≤ 1000000 by omega),a2c,b2m h1 h2,V3 hsl,a4V (show (done ++ rest).length ≤ 1000000 by omega),c2k he hB hnt',ih]
   by_cases h3:n.1 = 3
   · have h27:(n.1 == 27) = false:=bf (by omega)
     rw [bt h3,h27]
     simp only [cond_true,cond_false]
     by_cases hG:n.2.2.2.2.2 ∈ gn u.2.2.2.2.2.2.2
     · have hk:s9 (fU done) (nmP (m9 u)) (gn u.2.2.2.2.2.2.2) e (n :: suf) = 13:=by rw [s9,if_pos h3,if_pos hG]
       rw [dt hG,hk]; rfl
     · by_cases hS:n.2.2.2.2.2 ∈ nmP (m9 u)
       · have hk:s9 (fU done) (nmP (m9 u)) (gn u.2.2.2.2.2.2.2) e (n :: suf) = s9 (fU done) (nmP (m9 u)) (gn u.2.2.2.2.2.2.2) e suf:=by rw [s9,if_pos h3,if_neg hG,if_pos hS]
         rw [df hG,dt hS,hk]; rfl
       · have hk:s9 (fU done) (nmP (m9 u)) (gn u.2.2.2.2.2.2.2) e (n :: suf) = 8:=by rw [s9,if_pos h3,if_neg hG,if_neg hS]
         rw [df hG,df hS,hk]; rfl
   · rw [bf h3]
     simp only [cond_false]
     by_cases h27:n.1 = 27
     · rw [bt h27]
       simp only [cond_true]
       rcases V6 n.2.2.2.2.2 done rest with ⟨f1,f2⟩ | ⟨k,i,f1,f2,f3,f4⟩
       · have hk:s9 (fU done) (nmP (m9 u)) (gn u.2.2.2.2.2.2.2) e (n :: suf) = 14:=by rw [s9,if_neg h3,if_pos h27,f1]
         rw [hk]
         rcases f2 with f2 | f2
         · rw [dt f2]; rfl
         · rw [dt (show ixU (done ++ rest) n.2.2.2.2.2 ≥ ((done.length:Nat):Int) from f2)]
           cases decide (ixU (done ++ rest) n.2.2.2.2.2 < 0) <;> rfl
       · have hil:i < (done ++ rest).length:=by simp; omega
         rw [f2,df (show ¬ ((i:Nat):Int) < 0 by omega),df (show ¬ ((i:Nat):Int) ≥ ((done.length:Nat):Int) by omega)]
         simp only [cond_false,B5,dt hil,cond_true,Int.toNat_natCast,f4,bind_some]
         rcases Bool.eq_false_or_eq_true k.1 with k1 | k1
         · have hk:s9 (fU done) (nmP (m9 u)) (gn u.2.2.2.2.2.2.2) e (n :: suf) = 14:=by
            rw [s9,if_neg h3,if_pos h27,f1]
            exact if_neg (fun g => by rw [k1] at g; cases g.1)
           rw [hk,k1]; rfl
         · by_cases hc:((k.2.2.1.length:Nat):Int) = N3 e e.length n.2.1
           · have hk:s9 (fU done) (nmP (m9 u)) (gn u.2.2.2.2.2.2.2) e (n :: suf) = s9 (fU done) (nmP (m9 u)) (gn u.2.2.2.2.2.2.2) e suf:=by
              rw [s9,if_neg h3,if_pos h27,f1]
              exact if_pos ⟨k1,hc⟩
             rw [hk,k1,nbt hc]; rfl
           · have hk:s9 (fU done) (nmP (m9 u)) (gn u.2.2.2.2.2.2.2) e (n :: suf) = 14:=by
              rw [s9,if_neg h3,if_pos h27,f1]
              exact if_neg (fun g => hc g.2)
             rw [hk,k1,nbf hc]; rfl
     · have hk:s9 (fU done) (nmP (m9 u)) (gn u.2.2.2.2.2.2.2) e (n :: suf) = s9 (fU done) (nmP (m9 u)) (gn u.2.2.2.2.2.2.2) e suf:=by rw [s9,if_neg h3,if_neg h27]
       rw [bf h27,hk]; rfl)
theorem c2q (mn bk:Str) {done rest:List Unt} {u:Unt} (hl:(done ++ u :: rest).length ≤ 1000) (h1:u.2.2.1.length ≤ 200) (h2:u.2.2.2.2.2.1.length ≤ 200) (hx:u.2.2.2.2.2.2.2.length ≤ 1000) {e:List Nd} (he:e.length ≤ 1000000) (hB:a5d e) :
  c3y T.rf (done ++ u :: rest) mn bk (done.length:Nat) e = some (done ++ u :: rest,s9 (fU done) (nmP (m9 u)) (gn u.2.2.2.2.2.2.2) e e):=d8q (by
 have:=a9g mn bk hl u h1 h2 hx he hB e [] rfl
 rw [length_nil,show ((0:Nat):Int) = (0:Int) from rfl] at this
 simp only [c5F,a5,a6,cond_true,bind_some,this]
 by_cases g:s9 (fU done) (nmP (m9 u)) (gn u.2.2.2.2.2.2.2) e e = 0
 · rw [if_pos g,g]
 · rw [if_neg g])
def P2 (u:Unt):List Str:=u.2.2.2.1 :: nmP u.2.2.2.2.2.1
theorem a7m (l m:List Pm):nmP (l ++ m) = nmP l ++ nmP m:=by simp [nmP]
theorem d0F (mn bk:Str) {done rest:List Unt} {u:Unt} (hl:(done ++ u :: rest).length ≤ 1000) (h1:u.2.2.1.length ≤ 200) (h2:u.2.2.2.2.2.1.length ≤ 200) (hx:u.2.2.2.2.2.2.2.length ≤ 1000) (hq:u.2.2.2.2.2.2.1.length ≤ 1000):∀ (suf pre:List Eqn) (seen:List Pm) (O:List Str),u.2.2.2.2.2.2.1 = pre ++ suf → (∀ q ∈ suf,q.2.length ≤ 1000000 ∧ a5d q.2) → seen.length ≤ pre.length →
  O.Nodup → (∀ n,n ∈ O ↔ n ∈ P2 u ∧ n ∉ nmP seen) → O.length + seen.length = (P2 u).length →
  ∃ z,b3k T.rb mn bk u seen (done ++ u :: rest) (done.length:Nat) (pre.length:Nat) = some z ∧ Sp (fun c => z = .inl (mn,bk,u,done ++ u :: rest,c) ∧ c ≠ 0) (fun O' => ∃ seen',z = .inr (mn,bk,u,done ++ u :: rest,seen') ∧ O'.length + seen'.length = (P2 u).length)
   (P6 (fU done) (nmP (m9 u)) (gn u.2.2.2.2.2.2.2) (P2 u) O suf)
 | [],pre,seen,O,h,hs,hsl,hO,hm,hlen => ⟨_,d0k (by simp only [b7n,h,j9,cond_false]),seen,rfl,hlen⟩
 | q :: suf,pre,seen,O,h,hs,hsl,hO,hm,hlen => by
   have hp:pre.length ≤ 1000:=by have:=congrArg List.length h; simp at this; omega
   obtain ⟨q1,q2⟩:=hs q List.mem_cons_self
   have hbody:∀ z,(b7n T.rf T.rb mn bk u seen (done ++ u :: rest) (done.length:Nat) (pre.length:Nat) = some z) → b3k T.rb mn bk u seen (done ++ u :: rest) (done.length:Nat) (pre.length:Nat) = some z:=fun z hz => d0k hz
   simp only [b7n,h,g8,a5,a6,cond_true,bind_some,e9 pre q (by omega),bs,V3 (show u.2.2.2.2.2.1.length ≤ 1000000 by omega),V3 (show seen.length ≤ 1000000 by omega),c2q mn bk hl h1 h2 hx q1 q2,j5 (show seen.length + 1 ≤ 274877906944 by omega),Bool.and_true] at hbody
   by_cases hA:q.1 ∈ P2 u
   case neg =>
    have a1:¬ q.1 = u.2.2.2.1:=fun g => hA (by rw [P2,g]; exact List.mem_cons_self)
    have a2:q.1 ∉ nmP u.2.2.2.2.2.1:=fun g => hA (List.mem_cons_of_mem _ g)
    rw [df a1,df a2] at hbody
    rw [show P6 (fU done) (nmP (m9 u)) (gn u.2.2.2.2.2.2.2) (P2 u) O (q :: suf) = .inl 8 from by rw [P6,if_neg hA]]
    exact ⟨_,hbody _ rfl,rfl,by decide⟩
   have hboth:∀ z,((bif decide (q.1 ∈ nmP seen) then some (.inl (mn,bk,u,done ++ u :: rest,(9:Int))) else
     bif s9 (fU done) (nmP (m9 u)) (gn u.2.2.2.2.2.2.2) q.2 q.2 != 0 then some (.inl (mn,bk,u,done ++ u :: rest,s9 (fU done) (nmP (m9 u)) (gn u.2.2.2.2.2.2.2) q.2 q.2)) else
     b3k T.rb mn bk u (seen ++ [(q.1,0)]) (done ++ u :: rest) (done.length:Nat) (((pre ++ [q]).length:Nat):Int)) = some z) → b3k T.rb mn bk u seen (done ++ u :: rest) (done.length:Nat) (pre.length:Nat) = some z:=by
    intro z hz
    refine hbody z ?_
    by_cases a1:q.1 = u.2.2.2.1
    · rw [dt a1]; exact hz
    · have a2:q.1 ∈ nmP u.2.2.2.2.2.1:=by
       rcases List.mem_cons.1 hA with g | g
       · exact absurd g a1
       · exact g
      rw [df a1,dt a2]; exact hz
   by_cases hsn:q.1 ∈ nmP seen
   · have hnO:q.1 ∉ O:=fun g => ((hm q.1).1 g).2 hsn
     rw [show P6 (fU done) (nmP (m9 u)) (gn u.2.2.2.2.2.2.2) (P2 u) O (q :: suf) = .inl 9 from by rw [P6,if_pos hA,if_neg hnO]]
     exact ⟨_,hboth _ (by rw [dt hsn]; rfl),rfl,by decide⟩
   have hiO:q.1 ∈ O:=(hm q.1).2 ⟨hA,hsn⟩
   by_cases hu:s9 (fU done) (nmP (m9 u)) (gn u.2.2.2.2.2.2.2) q.2 q.2 = 0
   case neg =>
    rw [show P6 (fU done) (nmP (m9 u)) (gn u.2.2.2.2.2.2.2) (P2 u) O (q :: suf) = .inl (s9 (fU done) (nmP (m9 u)) (gn u.2.2.2.2.2.2.2) q.2 q.2) from by rw [P6,if_pos hA,if_pos hiO,if_neg hu]]
    exact ⟨_,hboth _ (by rw [df hsn,nbf hu]; rfl),rfl,hu⟩
   rw [show P6 (fU done) (nmP (m9 u)) (gn u.2.2.2.2.2.2.2) (P2 u) O (q :: suf) = P6 (fU done) (nmP (m9 u)) (gn u.2.2.2.2.2.2.2) (P2 u) (O.erase q.1) suf from by rw [P6,if_pos hA,if_pos hiO,if_pos hu]]
   have hpos:0 < O.length:=List.length_pos_of_mem hiO
   obtain ⟨z,g1,g2⟩:=d0F mn bk hl h1 h2 hx hq suf (pre ++ [q]) (seen ++ [(q.1,0)]) (O.erase q.1) (by simpa using h) (fun y hy => hs y (List.mem_cons_of_mem _ hy)) (by simp; omega) (hO.erase _) (fun n => by
    rw [hO.mem_erase_iff,hm n,a7m]
    simp only [List.mem_append,not_or,nmP,List.map_cons,List.map_nil,List.mem_singleton]
    constructor
    · rintro ⟨a,b,c⟩; exact ⟨b,c,a⟩
    · rintro ⟨a,b,c⟩; exact ⟨c,a,b⟩) (by rw [List.length_erase_of_mem hiO]; simp; omega)
   exact ⟨z,hboth z (by rw [df hsn,nbt hu]; exact g1),g2⟩
theorem b0x:∀ (l:List Pm) (S:List Str),S.Nodup → a1Y S l = false → (S ++ nmP l).Nodup
 | [],S,hS,h => by simpa [nmP] using hS
 | p :: l,S,hS,h => by
   unfold a1Y at h
   split at h
   · cases h
   rename_i hp
   have:=b0x l (S ++ [p.1]) (List.nodup_append.2 ⟨hS,by simp,fun a ha b hb e => by
    rw [List.mem_singleton.1 hb] at e; exact hp (e ▸ ha)⟩) h
   rw [a8L]
   simpa using this
theorem b4k {u:Unt} (h:u.1 = false):(nmP (m9 u)).drop u.2.2.1.length = P2 u:=by
 rw [m9,if_neg (by rw [h]; decide),a7m,a7m,List.append_assoc,List.drop_left' (by simp [nmP])]
 rfl
theorem b5J {u:Unt} (h:u.1 = true):(nmP (m9 u)).drop u.2.2.1.length = []:=by
 rw [m9,if_pos h]; exact List.drop_eq_nil_of_le (by simp [nmP])
theorem a9Z (mn bk:Str) {done rest:List Unt} {u:Unt} (hl:(done ++ u :: rest).length ≤ 1000) (h1:u.2.2.1.length ≤ 200) (h2:u.2.2.2.2.2.1.length ≤ 200) (hx:u.2.2.2.2.2.2.2.length ≤ 1000) (hq:u.2.2.2.2.2.2.1.length ≤ 200) (hqe:∀ q ∈ u.2.2.2.2.2.2.1,q.2.length ≤ 1000000 ∧ a5d q.2) (hn:(P2 u).Nodup) :
  ∃ c,c3x T.rf (done ++ u :: rest) mn bk (done.length:Nat) = some (done ++ u :: rest,c) ∧ Sp (fun e => c = e ∧ e ≠ 0) (fun O => if O = [] then c = 0 else c = 8) (P6 (fU done) (nmP (m9 u)) (gn u.2.2.2.2.2.2.2) (P2 u) (P2 u) u.2.2.2.2.2.2.1):=by
 have hbody:∀ z,(c2j T.rf T.rb (done ++ u :: rest) mn bk (done.length:Nat) = some z) → c3x T.rf (done ++ u :: rest) mn bk (done.length:Nat) = some z:=fun z hz => d8p hz
 obtain ⟨z,g1,g2⟩:=d0F mn bk hl h1 h2 hx (by omega) u.2.2.2.2.2.2.1 [] [] (P2 u) rfl hqe (by simp) hn (fun n => by simp [nmP]) (by simp)
 rw [length_nil,show ((0:Nat):Int) = (0:Int) from rfl] at g1
 simp only [c2j,a5,a6,cond_true,bind_some,g1] at hbody
 revert g2
 cases P6 (fU done) (nmP (m9 u)) (gn u.2.2.2.2.2.2.2) (P2 u) (P2 u) u.2.2.2.2.2.2.1 with
 | inl e =>
   rintro ⟨rfl,he⟩
   exact ⟨_,hbody _ rfl,rfl,he⟩
 | inr O =>
   rintro ⟨seen,rfl,hlen⟩
   have hal:(P2 u).length = u.2.2.2.2.2.1.length + 1:=by simp [P2,nmP]
   have hw:IntKind.i64.wrap (((u.2.2.2.2.2.1.length:Nat):Int) + 1) = ((u.2.2.2.2.2.1.length + 1:Nat):Int):=H5 (by omega)
   simp only [hw] at hbody
   by_cases hO:O = []
   · subst hO
     have:((seen.length:Nat):Int) = ((u.2.2.2.2.2.1.length + 1:Nat):Int):=by simp at hlen; omega
     rw [nbt this] at hbody
     refine ⟨0,hbody _ rfl,?_⟩
     show (if ([]:List Str) = [] then (0:Int) = 0 else (0:Int) = 8)
     rw [if_pos rfl]
   · have hpos:0 < O.length:=List.length_pos_iff.2 hO
     have:((seen.length:Nat):Int) ≠ ((u.2.2.2.2.2.1.length + 1:Nat):Int):=by omega
     rw [nbf this] at hbody
     refine ⟨8,hbody _ rfl,?_⟩
     show (if O = [] then (8:Int) = 0 else (8:Int) = 8)
     rw [if_neg hO]
theorem d0A (u:Unt):∀ (suf pre:List Pm),(pre ++ suf).length ≤ 1000 → c4i T.rb false ([]:Str) [] ([]:Str) 0 [] u (pre ++ suf) [] [] (pre.length:Nat) = some (if a1Y (nmP pre) suf = true then .inl (u,u,pre ++ suf,[],[],9) else .inr (false,[],[],[],0,[],u,pre ++ suf,[],[]))
 | [],pre,h => d0l (by simp only [b9H,j9,cond_false]; rfl)
 | p :: suf,pre,h => d0l (by
   have hp:pre.length ≤ 1000:=by simp at h; omega
   have ih:=d0A u suf (pre ++ [p]) (by simpa using h)
   simp only [List.append_assoc,List.singleton_append,a7m] at ih
   have hin':E3 ((pre.length:Nat):Int) (pre ++ p :: suf).length = true:=by rw [N8]; exact dt (by simp)
   have htk:sub (pre ++ p :: suf) (some (0,((pre.length:Nat):Int).toNat - 0)) = pre:=by rw [Int.toNat_natCast,Nat.sub_zero,sub_zero]; simp
   have hz:nmP [p] = [p.1]:=rfl
   simp only [b9H,g8,hin',a5,a6,htk,cond_true,bind_some,V3 (show pre.length ≤ 1000000 by omega),e9 pre p (by omega),ih,hz]
   by_cases g:p.1 ∈ nmP pre
   · have hd:a1Y (nmP pre) (p :: suf) = true:=by rw [a1Y,if_pos g]
     rw [dt g,hd]; rfl
   · have hd:a1Y (nmP pre) (p :: suf) = a1Y (nmP pre ++ [p.1]) suf:=by rw [a1Y,if_neg g]
     rw [df g,hd]; rfl)
theorem c2p (mn bk:Str) {done rest:List Unt} (hus:∀ k ∈ done,UOk k) {u:Unt} (hl:(done ++ u :: rest).length ≤ 1000) (hu:UIn u) (hk:u.1 = true → u.2.2.2.2.2.2.1 = []) :
  ∃ z,c3s T.rf (done ++ u :: rest) mn bk (done.length:Nat) = some z ∧ Sp (fun c => z.2.2 = c ∧ c ≠ 0) (fun u' => z = (done ++ u' :: rest,u',0)) (K5 (fU done) u):=by
 have hbody:∀ z,(c2g T.rf T.rb (done ++ u :: rest) mn bk (done.length:Nat) = some z) → c3s T.rf (done ++ u :: rest) mn bk (done.length:Nat) = some z:=fun z hz => d8a hz
 have hsl:=a9z hu
 have hd0:=d0A u (m9 u) [] (by simp; omega)
 simp only [List.nil_append,length_nil] at hd0
 rw [show ((0:Nat):Int) = (0:Int) from rfl,show nmP [] = [] from rfl] at hd0
 simp only [c2g,a5,a6,cond_true,bind_some,a4V (show (done ++ u :: rest).length ≤ 1000000 by omega),b2m hu.i hu.v,hd0] at hbody
 rcases V6 u.2.1 done (u :: rest) with ⟨f1,f2⟩ | ⟨k,i,f1,f2,f3,f4⟩
 case inr =>
  rw [f2,dt (show ((i:Nat):Int) < ((done.length:Nat):Int) by omega)] at hbody
  rw [show K5 (fU done) u = .inl 9 from by rw [K5,if_pos (by rw [f1]; simp)]]
  exact ⟨_,hbody _ rfl,rfl,by decide⟩
 have hge:¬ ixU (done ++ u :: rest) u.2.1 < ((done.length:Nat):Int):=by
  rcases f2 with f2 | f2
  · exfalso
    have h1:=a8m u.2.1 [] (done ++ u :: rest) 0
    rw [List.append_nil] at h1
    rcases h1 with ⟨g1,_⟩ | ⟨k,i,_,g2,_⟩
    · have:fU (done ++ [u] ++ rest) u.2.1 = some u:=c0q (b6f f1) rest
      rw [List.append_assoc,List.singleton_append,g1] at this
      cases this
    · unfold ixU at f2; rw [g2] at f2; omega
  · omega
 rw [df hge] at hbody
 simp only [cond_false] at hbody
 cases hd:a1Y [] (m9 u) with
 | true =>
   rw [hd] at hbody
   rw [show K5 (fU done) u = .inl 9 from by rw [K5,if_neg (by simp [f1]),hd,if_pos rfl]]
   exact ⟨_,hbody _ rfl,rfl,by decide⟩
 | false =>
   rw [hd] at hbody
   simp only [Bool.false_eq_true,if_false] at hbody
   obtain ⟨l,c,i1,i2⟩:=b8v mn bk hus hl hu
   have hsp:∀ r,s5 (fU done) (nmP (m9 u)) u.2.2.2.2.2.2.2 [] = r → K5 (fU done) u = (match r with
    | .inl c => .inl c
    | .inr l => match P6 (fU done) (nmP (m9 u)) (gn l) ((nmP (m9 u)).drop u.2.2.1.length) ((nmP (m9 u)).drop u.2.2.1.length) u.2.2.2.2.2.2.1 with
      | .inl c => .inl c
      | .inr O => if O = [] then .inr (a1M u l) else .inl 8):=fun r hr => by rw [K5,if_neg (by simp [f1]),hd,if_neg (by decide),hr]; rfl
   have hblt:Nat.blt ((done.length:Nat):Int).toNat (done ++ u :: rest).length = true:=by rw [Int.toNat_natCast]; exact a0v (by simp)
   have hset:∀ v:Unt,l9 (done ++ u :: rest) ((done.length:Nat):Int).toNat v = done ++ v :: rest:=fun v => by rw [Int.toNat_natCast]; exact a1t done u v rest
   simp only [i1,bind_some,a5,hblt,hset,cond_true] at hbody
   revert i2
   cases hI:s5 (fU done) (nmP (m9 u)) u.2.2.2.2.2.2.2 [] with
   | inl e =>
     rintro ⟨rfl,he⟩
     rw [nbf he] at hbody
     rw [hsp _ hI]
     exact ⟨_,hbody _ rfl,rfl,he⟩
   | inr l' =>
     rintro ⟨rfl,rfl⟩
     have hb0:((0:Int) != 0) = false:=rfl
     rw [hb0] at hbody
     simp only [cond_false] at hbody
     have hok:UOk (a1M u l):=by
      obtain ⟨g1,g2⟩:=a4u hI (fun x hx => by obtain ⟨a,b,c,d,e⟩:=hu.xe x hx; exact ⟨a,b,c⟩) (by simp) (by simp)
      exact ⟨hu.i,g2,g1⟩
     rw [hsp _ hI]
     rcases Bool.eq_false_or_eq_true u.1 with u1 | u1
     · rw [u1] at hbody
       simp only [cond_true] at hbody
       have hred:(match (Sum.inr l:Int ⊕ List Itm) with
         | .inl c => (Sum.inl c:Int ⊕ Unt)
         | .inr l => match P6 (fU done) (nmP (m9 u)) (gn l) ((nmP (m9 u)).drop u.2.2.1.length) ((nmP (m9 u)).drop u.2.2.1.length) u.2.2.2.2.2.2.1 with
           | .inl c => (Sum.inl c:Int ⊕ Unt)
           | .inr O => if O = [] then Sum.inr (a1M u l) else Sum.inl 8) = Sum.inr (a1M u l):=by
        rw [b5J u1,hk u1]; rfl
       rw [hred]
       refine ⟨_,hbody _ rfl,?_⟩
       show _ = _
       rw [show a1M u l = (true,u.2.1,u.2.2.1,u.2.2.2.1,u.2.2.2.2.1,u.2.2.2.2.2.1,u.2.2.2.2.2.2.1,l) from by rw [a1M,u1]]
     · rw [u1] at hbody
       simp only [cond_false] at hbody
       have hsx:a1M u l = (false,u.2.1,u.2.2.1,u.2.2.2.1,u.2.2.2.2.1,u.2.2.2.2.2.1,u.2.2.2.2.2.2.1,l):=by rw [a1M,u1]
       have hnd:(P2 u).Nodup:=by
        have:=b0x (m9 u) [] List.nodup_nil hd
        rw [List.nil_append] at this
        rw [← b4k u1]
        exact this.sublist (List.drop_sublist _ _)
       have hst:m9 (a1M u l) = m9 u:=rfl
       obtain ⟨c,e1,e2⟩:=a9Z mn bk (done:=done) (rest:=rest) (u:=a1M u l) (by simpa using hl) hu.i hu.v (by have:=hok.x; omega) hu.q hu.qe hnd
       rw [hst] at e2
       rw [hsx] at e1
       simp only [e1,bind_some] at hbody
       rw [b4k u1]
       show ∃ z,_ ∧ Sp _ _ (match P6 (fU done) (nmP (m9 u)) (gn l) (P2 u) (P2 u) u.2.2.2.2.2.2.1 with
        | .inl c => (Sum.inl c:Int ⊕ Unt)
        | .inr O => if O = [] then Sum.inr (a1M u l) else Sum.inl 8)
       have e2':Sp (fun e => c = e ∧ e ≠ 0) (fun O => if O = [] then c = 0 else c = 8) (P6 (fU done) (nmP (m9 u)) (gn l) (P2 u) (P2 u) u.2.2.2.2.2.2.1):=e2
       revert e2'
       cases P6 (fU done) (nmP (m9 u)) (gn l) (P2 u) (P2 u) u.2.2.2.2.2.2.1 with
       | inl e =>
         rintro ⟨rfl,he⟩
         exact ⟨_,hbody _ rfl,rfl,he⟩
       | inr O =>
         intro hO
         by_cases h0:O = []
         · have hO:if O = [] then c = 0 else c = 8:=hO
           rw [if_pos h0] at hO
           subst hO
           simp only [if_pos h0]
           refine ⟨_,hbody _ rfl,?_⟩
           show _ = _
           rw [hsx]
         · have hO:if O = [] then c = 0 else c = 8:=hO
           rw [if_neg h0] at hO
           subst hO
           simp only [if_neg h0]
           exact ⟨_,hbody _ rfl,rfl,by decide⟩
theorem d0K (mn bk a b:Str) (cc:Int × Int) (z0:List Unt):∀ (suf done:List Unt),(done ++ suf).length ≤ 1000 → (∀ u ∈ suf,UIn u ∧ (u.1 = true → u.2.2.2.2.2.2.1 = [])) → (∀ k ∈ done,UOk k) →
  ∃ z,b7T T.rb a b cc mn bk z0 (done ++ suf) (done.length:Nat) = some z ∧ Sp (fun ci => ∃ us,z = .inl ([],[],ci,mn,bk,z0,us,[])) (fun us => z = .inr (a,b,cc,mn,bk,z0,us)) (B8 done suf)
 | [],done,h,hs,hd => ⟨.inr (a,b,cc,mn,bk,z0,done ++ []),c9T (by simp only [b7k,j9,cond_false]),by show _ = _; rw [List.append_nil]⟩
 | u :: suf,done,h,hs,hd => by
   have hp:done.length < 4611686018427387904:=by simp at h; omega
   have hbody:∀ z,(b7k T.rf T.rb a b cc mn bk z0 (done ++ u :: suf) (done.length:Nat) = some z) → b7T T.rb a b cc mn bk z0 (done ++ u :: suf) (done.length:Nat) = some z:=fun z hz => c9T hz
   obtain ⟨hu,hk⟩:=hs u List.mem_cons_self
   obtain ⟨z1,h1,h2⟩:=c2p mn bk hd h hu hk
   simp only [b7k,g8,cond_true,bind_some,h1] at hbody
   revert h2
   cases hU:K5 (fU done) u with
   | inl c =>
     rintro ⟨rfl,hc⟩
     rw [nbf hc] at hbody
     rw [show B8 done (u :: suf) = .inl (z1.2.2,((done.length:Nat):Int)) from by simp only [B8,hU]]
     exact ⟨_,hbody _ rfl,_,rfl⟩
   | inr u' =>
     rintro rfl
     rw [show B8 done (u :: suf) = B8 (done ++ [u']) suf from by simp only [B8,hU]]
     obtain ⟨z,h3,h4⟩:=d0K mn bk a b cc z0 suf (done ++ [u']) (by simpa using h) (fun y hy => hs y (List.mem_cons_of_mem _ hy)) (fun k hk => by
      rcases List.mem_append.1 hk with hk | hk
      · exact hd k hk
      · rw [List.mem_singleton.1 hk]; exact a5b hU hu)
     simp only [List.append_assoc,List.singleton_append] at h3
     have hb0:((0:Int) != 0) = false:=rfl
     have hblt:Nat.blt ((done.length:Nat):Int).toNat (done ++ u' :: suf).length = true:=by rw [Int.toNat_natCast]; exact a0v (by simp)
     have hset:l9 (done ++ u' :: suf) ((done.length:Nat):Int).toNat u' = done ++ u' :: suf:=by rw [Int.toNat_natCast]; exact a1t done u' u' suf
     simp only [hb0,cond_false,a5,hblt,cond_true,hset,e9 done u' hp] at hbody
     exact ⟨z,hbody z h3,h4⟩
theorem c1q {p:Prg} (h:S3 p = true):∀ u ∈ (D9 p).1,u.1 = true → u.2.2.2.2.2.2.1 = []:=by
 intro u hu h1
 obtain ⟨v,hv,rfl⟩:=List.mem_map.1 hu
 have hF:=unF ((pgF h).u v hv)
 have:=(hF.k h1).2.2.2
 simp [K4,this]
theorem b3N {p:Prg} (hs:SzP 200 200 p):d1G T.rf p = some (m8 p):=d7K (by
 simp only [c5e,a6G hs (by omega) (by omega),bind_some]
 unfold m8
 cases hp:S3 p with
 | false => rfl
 | true =>
   have hin:=a4H hs hp
   obtain ⟨z,h1,h2⟩:=d0K p.2.1 p.2.2 [] [] (0,0) [] (D9 p).1 [] (by have:=hs.c; simp [D9]; omega) (fun u hu => ⟨hin u hu,c1q hp u hu⟩) (by simp)
   simp only [List.nil_append,length_nil] at h1
   rw [show ((0:Nat):Int) = (0:Int) from rfl] at h1
   have hord:=a3C hs (by omega) (by omega)
   simp only [Bool.not_true,cond_false,hord,bind_some,if_true]
   have h1':b7T T.rb ([]:Str) ([]:Str) (0,0) (D9 p).2.1 (D9 p).2.2 [] (D9 p).1 0 = some z:=h1
   rw [h1']
   simp only [bind_some]
   revert h2
   cases hU:B8 [] (D9 p).1 with
   | inl ci =>
     rintro ⟨us,rfl⟩
     rfl
   | inr us =>
     rintro rfl
     have hul:us.length ≤ 1000000:=by have:=(b6L hs hp hU p.2.1 p.2.2).c; simp at this; omega
     simp only [a4V hul,bind_some,b3b,bs]
     have hm:=V6 p.2.1 us []
     rw [List.append_nil] at hm
     have hbnd:∀ n:Str,fU us n = none → ixU us n < 0:=fun n hn => by
      have hq:=V6 n us []
      rw [List.append_nil] at hq
      rcases hq with ⟨_,g | g⟩ | ⟨k,i,g,_⟩
      · exact g
      · have:=G7 n (nmU us) 0
        have hl:(nmU us).length = us.length:=by simp [nmU]
        unfold ixU at g ⊢
        rcases this with h | h
        · omega
        · omega
      · rw [hn] at g; cases g
     cases hmn:fU us p.2.1 with
     | none =>
       rw [dt (hbnd _ hmn)]; rfl
     | some m =>
       rcases hm with ⟨g,_⟩ | ⟨m',i,g1,g2,g3,g4⟩
       · rw [hmn] at g; cases g
       rw [hmn] at g1
       cases g1
       rw [g2,df (show ¬ ((i:Nat):Int) < 0 by omega)]
       simp only [cond_false,B5,dt g3,cond_true,Int.toNat_natCast,g4,bind_some]
       rcases Bool.eq_false_or_eq_true m.1 with hm1 | hm1
       · simp only [hm1,cond_true,if_true]; rfl
       simp only [hm1,cond_false,Bool.false_eq_true,if_false]
       by_cases hb:p.2.2 = []
       · simp only [dt hb,Bool.not_true,cond_false,if_pos hb]
       simp only [df hb,Bool.not_false,cond_true,if_neg hb]
       cases hbk:fU us p.2.2 with
       | none => rw [dt (hbnd _ hbk)]; rfl
       | some b =>
         have hq:=V6 p.2.2 us []
         rw [List.append_nil] at hq
         rcases hq with ⟨g,_⟩ | ⟨b',j,k1,k2,k3,k4⟩
         · rw [hbk] at g; cases g
         rw [hbk] at k1
         cases k1
         rw [k2,df (show ¬ ((j:Nat):Int) < 0 by omega)]
         simp only [cond_false,B5,dt k3,cond_true,Int.toNat_natCast,k4,bind_some]
         rcases Bool.eq_false_or_eq_true b.1 with hb1 | hb1
         · simp only [hb1,cond_true,if_true]; rfl
         have hbl:b.2.2.1.length ≤ 1000000:=by
          have:=a0S hU hin (by simp) b (List.mem_of_find?_eq_some hbk)
          have:=this.i; omega
         obtain ⟨y,y1,y2⟩:=a9i (a:=b.2.2.1) (b:=m.2.2.1) hbl
         simp only [hb1,cond_false,Bool.false_eq_true,if_false,y1,bind_some,b2o,bs]
         by_cases hin2:b.2.2.1 = m.2.2.1
         · have:y = true:=y2.2 hin2
           subst this
           simp only [Bool.not_true,cond_false,dt hin2,Bool.true_and]
           rcases Bool.eq_false_or_eq_true (decide (b.2.2.2.1 = m.2.2.2.1) && (b.2.2.2.2.1 == m.2.2.2.2.1)) with hq | hq
           · simp only [hq,Bool.not_true,cond_false,if_true]
           · simp only [hq,Bool.not_false,cond_true,Bool.false_eq_true,if_false]; rfl
         · have:y = false:=by
            cases y with
            | false => rfl
            | true => exact absurd (y2.1 rfl) hin2
           subst this
           simp only [Bool.not_false,cond_true,df hin2,Bool.false_and,Bool.false_eq_true,if_false]; rfl)
theorem a6X (p:Prg) (n:Str):c0 T.rf p n = some true:=or0 (by
 obtain ⟨s,h1,h2⟩:=a1R p
 simp only [r0,h1,bind_some,a4z]
 cases s with
 | false => rfl
 | true =>
   have hs:SzP 200 200 p:=(h2 rfl).mono (by omega) (by omega)
   have hc:=hs.c
   have hsame:a7N T.rf (m8 p).1 (m8 p).1 = some true:=a2L (by omega) (by omega) (a9c hs)
   simp only [Bool.not_true,cond_false,K7 hs,b3N hs,bind_some,hsame,cond_true,bt rfl,Bool.and_self,c1c (show p.1.length ≤ 1000000 by omega),b8u (show p.1.length ≤ 1000000 by omega)]
   cases decide (((n.length:Nat):Int) > 100) <;> rfl)
theorem lawNamesResolve:b0g T 0:=fun d _ => ⟨true,a6X d.1 d.2,rfl,rfl,rfl⟩
end Go.Proofs.YtelpjfihadaomaaGreatDoor.R
