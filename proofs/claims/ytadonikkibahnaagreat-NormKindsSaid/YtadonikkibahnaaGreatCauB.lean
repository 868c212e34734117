import Derived.Test.YtadonikkibahnaaGreatResRun
import Derived.Test.YtadonikkibahnaaGreatBmF
open Option (bind_some)
namespace Go.Proofs.YtadonikkibahnaaGreat.R
open Go Go.Bm Go.Proofs
set_option linter.unusedVariables false
set_option linter.unusedSimpArgs false
set_option maxRecDepth 4000
def at0 (l:List Int) (i:Nat):Int:=l.getD i 0
theorem nth_at {l:List Int} {i:Nat} (h:i < l.length):nth l i = some (at0 l i):=by
 rw [nth_t h,at0,List.getD_eq_getElem?_getD,List.getElem?_eq_getElem h]; rfl
theorem at_get {l:List Int} {i:Nat} (h:i < l.length):at0 l i = l[i]:=by
 rw [at0,List.getD_eq_getElem?_getD,List.getElem?_eq_getElem h]; rfl
theorem at_set {l:List Int} {i j:Nat} (y:Int) (h:i < l.length):at0 (l.set i y) j = if j = i then y else at0 l j:=by
 simp only [at0,List.getD_eq_getElem?_getD,List.getElem?_set]
 by_cases e:i = j
 · subst e; rw [if_pos rfl,if_pos h,if_pos rfl]; rfl
 · rw [if_neg e,if_neg (fun x => e x.symm)]
theorem at_app {l:List Int} {x:Int} {i:Nat}:at0 (l ++ [x]) i = if i < l.length then at0 l i else if i = l.length then x else 0:=by
 simp only [at0,List.getD_eq_getElem?_getD]
 by_cases h:i < l.length
 · rw [if_pos h,List.getElem?_append_left h]
 · rw [if_neg h,List.getElem?_append_right (by omega)]
   by_cases e:i = l.length
   · subst e; simp
   · rw [if_neg e]
     rw [List.getElem?_eq_none (by simp; omega)]; rfl
theorem at_take {l:List Int} {n i:Nat} (h:i < n):at0 (l.take n) i = at0 l i:=by
 simp only [at0,List.getD_eq_getElem?_getD,List.getElem?_take,if_pos h]
def swp (l:List Int) (i j:Nat):List Int:=(l.set i (at0 l j)).set j (at0 l i)
theorem swp_len (l:List Int) (i j:Nat):(swp l i j).length = l.length:=by simp [swp]
theorem at_swp {l:List Int} {i j k:Nat} (hi:i < l.length) (hj:j < l.length):at0 (swp l i j) k = if k = j then at0 l i else if k = i then at0 l j else at0 l k:=by
 rw [swp,at_set _ (by simpa using hj),at_set _ hi]
theorem swp_perm {l:List Int} {i j:Nat} (hi:i < l.length) (hj:j < l.length):(swp l i j).Perm l:=by
 rw [swp,at_get hi,at_get hj]; exact List.set_set_perm hi hj
def HeapN (l:List Int) (n:Nat):Prop:=∀ i,0 < i → i < n → at0 l ((i - 1) / 2) ≤ at0 l i
def HeapP (l:List Int):Prop:=HeapN l l.length
def UpH (l:List Int) (j:Nat):Prop :=
 (∀ i,0 < i → i < l.length → i ≠ j → at0 l ((i - 1) / 2) ≤ at0 l i) ∧ (∀ i,0 < i → i < l.length → (i - 1) / 2 = j → 0 < j → at0 l ((j - 1) / 2) ≤ at0 l i)
def DownH (l:List Int) (n i:Nat):Prop :=
 (∀ j,0 < j → j < n → (j - 1) / 2 ≠ i → at0 l ((j - 1) / 2) ≤ at0 l j) ∧ (∀ j,0 < j → j < n → (j - 1) / 2 = i → 0 < i → at0 l ((i - 1) / 2) ≤ at0 l j)
theorem heap_least {l:List Int} {n:Nat} (h:HeapN l n):∀ (m i:Nat),i ≤ m → i < n → at0 l 0 ≤ at0 l i
 | m,0,_,_ => Int.le_refl _
 | 0,i + 1,h1,_ => by omega
 | m + 1,i + 1,h1,h2 => by
   have:=h (i + 1) (by omega) h2
   have h3:=heap_least h m ((i + 1 - 1) / 2) (by omega) (by omega)
   omega
theorem up_step {l:List Int} {j:Nat} (hj:0 < j) (hjl:j < l.length) (h:UpH l j) (hlt:at0 l j < at0 l ((j - 1) / 2)):UpH (swp l ((j - 1) / 2) j) ((j - 1) / 2):=by
 have hp:(j - 1) / 2 < l.length:=by omega
 refine ⟨fun i h0 hi hne => ?_,fun i h0 hi he h1 => ?_⟩
 · rw [swp_len] at hi
   have a:=h.1 i h0 hi
   have b:=h.2 i h0 hi
   rw [at_swp hp hjl,at_swp hp hjl]
   by_cases e1:i = j
   · subst e1
     rw [if_neg (show ¬ ((i - 1) / 2 = i) by omega),if_pos rfl,if_pos rfl]; omega
   · have a:=a e1
     rw [if_neg e1,if_neg hne]
     by_cases e2:(i - 1) / 2 = j
     · rw [if_pos e2]; exact b e2 hj
     · rw [if_neg e2]
       by_cases e3:(i - 1) / 2 = (j - 1) / 2
       · rw [if_pos e3]; rw [e3] at a; omega
       · rw [if_neg e3]; exact a
 · rw [swp_len] at hi
   have hpp:=h.1 ((j - 1) / 2) h1 hp (by omega)
   rw [at_swp hp hjl,at_swp hp hjl,if_neg (show ¬ (((j - 1) / 2 - 1) / 2 = j) by omega),if_neg (show ¬ (((j - 1) / 2 - 1) / 2 = (j - 1) / 2) by omega)]
   by_cases e1:i = j
   · rw [if_pos e1]; exact hpp
   · have a:=h.1 i h0 hi e1
     rw [if_neg e1,if_neg (show ¬ (i = (j - 1) / 2) by omega)]
     rw [he] at a; omega
theorem down_step {l:List Int} {n i j:Nat} (hn:n ≤ l.length) (hj:j < n) (hji:0 < j ∧ (j - 1) / 2 = i) (h:DownH l n i) (hlt:at0 l j < at0 l i) (hmin:∀ k,0 < k → k < n → (k - 1) / 2 = i → at0 l j ≤ at0 l k):DownH (swp l i j) n j:=by
 have hi:i < l.length:=by omega
 have hjl:j < l.length:=by omega
 refine ⟨fun k h0 hk hne => ?_,fun k h0 hk he h1 => ?_⟩
 · have a:=h.1 k h0 hk
   have b:=h.2 k h0 hk
   rw [at_swp hi hjl,at_swp hi hjl,if_neg hne]
   by_cases e1:(k - 1) / 2 = i
   · rw [if_pos e1]
     by_cases e2:k = j
     · rw [if_pos e2]; omega
     · rw [if_neg e2,if_neg (show ¬ (k = i) by omega)]; exact hmin k h0 hk e1
   · have a:=a e1
     rw [if_neg e1]
     by_cases e2:k = j
     · omega
     · rw [if_neg e2]
       by_cases e3:k = i
       · subst e3
         rw [if_pos rfl]
         exact h.2 j hji.1 hj hji.2 h0
       · rw [if_neg e3]; exact a
 · have a:=h.1 k h0 hk (by omega)
   rw [at_swp hi hjl,at_swp hi hjl,hji.2,if_neg (show ¬ (i = j) by omega),if_pos rfl,if_neg (show ¬ (k = j) by omega),if_neg (show ¬ (k = i) by omega)]
   rw [he] at a; exact a
theorem Swap_eq {l:List Int} {i j:Nat} (hi:i < l.length) (hj:j < l.length):c69 T.rf l (i:Nat) (j:Nat) = some (swp l i j):=or69 (by
 simp only [r69,inb_nat,dt hi,dt hj,cond_true,Int.toNat_natCast,nth_at hi,nth_at hj,bind_some,blt_t hi,setNth_set,List.length_set,blt_t hj,swp])
theorem Less_eq {l:List Int} {i j:Nat} (hi:i < l.length) (hj:j < l.length):c68 T.rf l (i:Nat) (j:Nat) = some (l,decide (at0 l i < at0 l j)):=or68 (by
 simp only [r68,inb_nat,dt hi,dt hj,cond_true,Int.toNat_natCast,nth_at hi,nth_at hj,bind_some])
theorem Len_eq (l:List Int):c66 T.rf l = some (l,((l.length:Nat):Int)):=or66 rfl
theorem half {j:Nat} (h:0 < j) (h2:j ≤ 1000000):IntKind.i64.wrap (Int.tdiv (IntKind.i64.wrap ((j:Int) - 1)) 2) = (((j - 1) / 2:Nat):Int):=by
 rw [wr (x:=(j:Int) - 1) (by omega),show (j:Int) - 1 = ((j - 1:Nat):Int) by omega,show Int.tdiv ((j - 1:Nat):Int) 2 = (((j - 1) / 2:Nat):Int) from by rw [Int.tdiv_eq_ediv_of_nonneg (by omega)]; omega]
 exact wr (by omega)
theorem up_loop:∀ (m j:Nat) (l:List Int),j ≤ m → j < l.length → l.length ≤ 1000000 →
  ∃ l',k171 T.rb l (j:Nat) = some l' ∧ l'.Perm l ∧ (UpH l j → HeapP l')
 | m,0,l,_,hj,hl => by
   refine ⟨l,ob171 ?_,List.Perm.refl _,fun h i h0 hi => h.1 i h0 hi (by omega)⟩
   simp only [b171]
   rw [show ((IntKind.i64.wrap (Int.tdiv (IntKind.i64.wrap (((0:Nat):Int) - 1)) 2)) == ((0:Nat):Int)) = true from by decide,cond_true]
 | 0,j + 1,l,h,_,_ => by omega
 | m + 1,j + 1,l,hm,hj,hl => by
   have hh:=half (j:=j + 1) (by omega) (by omega)
   have hp:(j + 1 - 1) / 2 < l.length:=by omega
   by_cases hlt:at0 l (j + 1) < at0 l ((j + 1 - 1) / 2)
   · obtain ⟨l',h1,h2,h3⟩:=up_loop m ((j + 1 - 1) / 2) (swp l ((j + 1 - 1) / 2) (j + 1)) (by omega) (by rw [swp_len]; omega) (by rw [swp_len]; omega)
     refine ⟨l',ob171 ?_,h2.trans (swp_perm hp hj),fun h => h3 (up_step (by omega) hj h hlt)⟩
     simp only [b171,hh,bf (show (((j + 1 - 1) / 2:Nat):Int) ≠ ((j + 1:Nat):Int) by omega),cond_false,Less_eq hj hp,bind_some,dt hlt,Bool.not_true,Swap_eq hp hj]
     exact h1
   · refine ⟨l,ob171 ?_,List.Perm.refl _,fun h i h0 hi => ?_⟩
     · simp only [b171,hh,bf (show (((j + 1 - 1) / 2:Nat):Int) ≠ ((j + 1:Nat):Int) by omega),cond_false,Less_eq hj hp,bind_some,df hlt,Bool.not_false,cond_true]
     · by_cases e:i = j + 1
       · subst e; omega
       · exact h.1 i h0 hi e
theorem down_loop (n:Nat):∀ (m i:Nat) (l:List Int),n ≤ i + m → n ≤ l.length → l.length ≤ 1000000 → i < l.length →
  ∃ l' r,k181 T.rb l (n:Nat) (i:Nat) = some (l',r) ∧ l'.Perm l ∧ (∀ k,n ≤ k → i < n → at0 l' k = at0 l k) ∧ (DownH l n i → HeapN l' n)
 | m,i,l,hm,hn,hl,hi => by
   have h1:IntKind.i64.wrap ((IntKind.i64.wrap (2 * (i:Int))) + 1) = ((2 * i + 1:Nat):Int):=by rw [wr (x:=2 * (i:Int)) (by omega),wr (by omega)]; omega
   have h2:IntKind.i64.wrap (((2 * i + 1:Nat):Int) + 1) = ((2 * i + 2:Nat):Int):=by rw [wr (by omega)]; omega
   by_cases hc:n ≤ 2 * i + 1
   · refine ⟨l,(i:Nat),ob181 ?_,List.Perm.refl _,fun _ _ _ => rfl,fun h k h0 hk => h.1 k h0 hk (by omega)⟩
     simp only [b181,h1,dt (show ((2 * i + 1:Nat):Int) ≥ ((n:Nat):Int) by omega),cond_true]
   have hj1:2 * i + 1 < l.length:=by omega
   match m,hm with
   | 0,hm => omega
   | m + 1,hm =>
   have go:∀ j,j = 2 * i + 1 ∨ j = 2 * i + 2 → j < n → (∀ k,0 < k → k < n → (k - 1) / 2 = i → at0 l j ≤ at0 l k) →
     (∀ y,((c68 T.rf l ((j:Nat):Int) ((i:Nat):Int)).bind fun (y2:List Int × Bool) =>
       bif !y2.2 then some (y2.1,((i:Nat):Int)) else (c69 T.rf y2.1 ((i:Nat):Int) ((j:Nat):Int)).bind fun (y3:List Int) => k181 T.rb y3 ((n:Nat):Int) ((j:Nat):Int)) = some y → b181 T.rf T.rb l (n:Nat) (i:Nat) = some y) →
     ∃ l' r,k181 T.rb l (n:Nat) (i:Nat) = some (l',r) ∧ l'.Perm l ∧ (∀ k,n ≤ k → i < n → at0 l' k = at0 l k) ∧ (DownH l n i → HeapN l' n):=by
    intro j hj hjn hmin hstep
    have hjl:j < l.length:=by omega
    by_cases hlt:at0 l j < at0 l i
    · obtain ⟨l',r,g1,g2,g3,g4⟩:=down_loop n m j (swp l i j) (by omega) (by rw [swp_len]; omega) (by rw [swp_len]; omega) (by rw [swp_len]; omega)
      refine ⟨l',r,ob181 (hstep _ ?_),g2.trans (swp_perm hi hjl),fun k hk _ => ?_,fun h => g4 (down_step hn hjn (by omega) h hlt hmin)⟩
      · simp only [Less_eq hjl hi,bind_some,dt hlt,Bool.not_true,cond_false,Swap_eq hi hjl]; exact g1
      · rw [g3 k hk hjn,at_swp hi hjl,if_neg (by omega),if_neg (by omega)]
    · refine ⟨l,(i:Nat),ob181 (hstep _ ?_),List.Perm.refl _,fun _ _ _ => rfl,fun h k h0 hk => ?_⟩
      · simp only [Less_eq hjl hi,bind_some,df hlt,Bool.not_false,cond_true]
      · by_cases e:(k - 1) / 2 = i
        · have:=hmin k h0 hk e
          rw [e]; omega
        · exact h.1 k h0 hk e
   by_cases hc2:2 * i + 2 < n
   · have hj2:2 * i + 2 < l.length:=by omega
     by_cases hl2:at0 l (2 * i + 2) < at0 l (2 * i + 1)
     · refine go (2 * i + 2) (Or.inr rfl) hc2 (fun k h0 hk e => ?_) (fun y h => ?_)
       · rcases (show k = 2 * i + 1 ∨ k = 2 * i + 2 by omega) with e | e <;> rw [e] <;> omega
       · simp only [b181,h1,h2,df (show ¬ (((2 * i + 1:Nat):Int) ≥ ((n:Nat):Int)) by omega),df (show ¬ (((2 * i + 1:Nat):Int) < 0) by omega),dt (show ((2 * i + 2:Nat):Int) < ((n:Nat):Int) by omega),cond_false,cond_true,Less_eq hj2 hj1,bind_some,dt hl2]
         exact h
     · refine go (2 * i + 1) (Or.inl rfl) (by omega) (fun k h0 hk e => ?_) (fun y h => ?_)
       · rcases (show k = 2 * i + 1 ∨ k = 2 * i + 2 by omega) with e | e <;> rw [e] <;> omega
       · simp only [b181,h1,h2,df (show ¬ (((2 * i + 1:Nat):Int) ≥ ((n:Nat):Int)) by omega),df (show ¬ (((2 * i + 1:Nat):Int) < 0) by omega),dt (show ((2 * i + 2:Nat):Int) < ((n:Nat):Int) by omega),cond_false,cond_true,Less_eq hj2 hj1,bind_some,df hl2]
         exact h
   · refine go (2 * i + 1) (Or.inl rfl) (by omega) (fun k h0 hk e => ?_) (fun y h => ?_)
     · rw [show k = 2 * i + 1 by omega]; omega
     · simp only [b181,h1,h2,df (show ¬ (((2 * i + 1:Nat):Int) ≥ ((n:Nat):Int)) by omega),df (show ¬ (((2 * i + 1:Nat):Int) < 0) by omega),df (show ¬ (((2 * i + 2:Nat):Int) < ((n:Nat):Int)) by omega),cond_false]
       exact h
theorem push_spec {l:List Int} (x:Int) (h:HeapP l) (hl:l.length < 1000000):∃ l',c64 T.rf l x = some l' ∧ HeapP l' ∧ l'.Perm (x :: l):=by
 obtain ⟨l',h1,h2,h3⟩:=up_loop l.length l.length (l ++ [x]) (Nat.le_refl _) (by simp) (by simp; omega)
 have hP:c65 T.rf l x = some (l ++ [x]):=or65 (by
  simp only [r65,ble_most (show l.length + 1 ≤ 274877906944 by omega),Bool.and_true,cond_true])
 have hU:c67 T.rf (l ++ [x]) (l.length:Nat) = some l':=or67 (by
  simp only [r67,h1,bind_some])
 refine ⟨l',or64 ?_,h3 ⟨fun i h0 hi hne => ?_,fun i h0 hi he _ => ?_⟩,h2.trans (List.perm_append_singleton _ _)⟩
 · simp only [r64,hP,bind_some,Len_eq]
   rw [show IntKind.i64.wrap ((((l ++ [x]).length:Nat):Int) - 1) = ((l.length:Nat):Int) from by rw [List.length_append,List.length_singleton,wr (by omega)]; omega,hU,bind_some]
 · rw [List.length_append,List.length_singleton] at hi
   rw [at_app,at_app,if_pos (by omega),if_pos (by omega)]
   exact h i h0 (by omega)
 · rw [List.length_append,List.length_singleton] at hi
   omega
theorem pop_spec {l:List Int} (h:HeapP l) (h0:l ≠ []) (hl:l.length < 1000000):∃ l',c70 T.rf l = some (l',at0 l 0) ∧ HeapP l' ∧ l.Perm (at0 l 0 :: l') ∧ ∀ y ∈ l,at0 l 0 ≤ y:=by
 have hp:=List.length_pos_iff.2 h0
 have hs:=swp_len l 0 (l.length - 1)
 obtain ⟨l',r,g1,g2,g3,g4⟩:=down_loop (l.length - 1) (l.length - 1) 0 (swp l 0 (l.length - 1)) (by omega) (by omega) (by omega) (by omega)
 have hlen:l'.length = l.length:=by rw [g2.length_eq,hs]
 have hD:DownH (swp l 0 (l.length - 1)) (l.length - 1) 0:=⟨fun j j0 hj hne => by
  rw [at_swp hp (by omega),at_swp hp (by omega),if_neg (by omega),if_neg hne,if_neg (by omega),if_neg (by omega)]
  exact h j j0 (by omega),fun _ _ _ _ x => absurd x (by omega)⟩
 have hlast:at0 l' (l.length - 1) = at0 l 0:=by
  by_cases e:l.length - 1 = 0
  · have e1:swp l 0 (l.length - 1) = l:=by
     obtain ⟨x,rfl⟩:=List.length_eq_one_iff.1 (show l.length = 1 by omega)
     rfl
    rw [e1] at g2
    obtain ⟨x,rfl⟩:=List.length_eq_one_iff.1 (show l.length = 1 by omega)
    rw [List.perm_singleton.1 g2]; rfl
  · rw [g3 _ (Nat.le_refl _) (by omega),at_swp hp (by omega),if_pos rfl]
 have hN:=g4 hD
 have hcut:l' = l'.take (l.length - 1) ++ [at0 l 0]:=by
  conv => lhs; rw [← List.take_append_drop (l.length - 1) l']
  congr 1
  rw [List.drop_eq_getElem_cons (by omega),List.drop_eq_nil_of_le (by omega),← at_get (by omega),hlast]
 refine ⟨l'.take (l.length - 1),or70 ?_,fun i i0 hi => ?_,?_,fun y hy => ?_⟩
 · have hpr:IntKind.i64.wrap (((l.length:Nat):Int) - 1) = ((l.length - 1:Nat):Int):=last_i h0 (by omega)
   have hdn:c71 T.rf (swp l 0 (l.length - 1)) 0 ((l.length - 1:Nat):Int) = some (l',decide (r > 0)):=or71 (by
    rw [show ((0:Nat):Int) = (0:Int) from rfl] at g1
    simp only [r71,g1,bind_some])
   have hS:=Swap_eq (l:=l) (i:=0) (j:=l.length - 1) hp (by omega)
   rw [show ((0:Nat):Int) = (0:Int) from rfl] at hS
   have hPop:c72 T.rf l' = some (l'.take (l.length - 1),at0 l 0):=or72 (by
    simp only [r72]
    rw [hlen,hpr]
    simp only [inb_nat,inb'_nat,dt (show l.length - 1 < l.length by omega),dt (show l.length - 1 ≤ l.length by omega),cond_true,Int.toNat_natCast,nth_at (show l.length - 1 < l'.length by omega),bind_some,hlast,Nat.sub_zero,sub_zero])
   simp only [r70,Len_eq,bind_some,hpr,hS,hdn,hPop]
 · rw [List.length_take] at hi
   rw [at_take (by omega),at_take (by omega)]
   exact hN i i0 (by omega)
 · refine ((swp_perm hp (show l.length - 1 < l.length by omega)).symm.trans g2.symm).trans ?_
   conv => lhs; rw [hcut]
   exact List.perm_append_singleton _ _
 · obtain ⟨i,hi,rfl⟩:=List.getElem_of_mem hy
   rw [← at_get hi]
   exact heap_least h i i (Nat.le_refl _) hi
end Go.Proofs.YtadonikkibahnaaGreat.R
