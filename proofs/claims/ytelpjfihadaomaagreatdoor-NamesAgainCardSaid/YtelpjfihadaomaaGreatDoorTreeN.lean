import Derived.Test.YtelpjfihadaomaaGreatDoorTreX
namespace Go.Proofs.YtelpjfihadaomaaGreatDoor.R
open Go Go.Bm Go.Proofs
set_option linter.unusedVariables false
set_option linter.unusedSimpArgs false
set_option maxRecDepth 4000
def ids (n:Nat):List Int:=(List.range n).map fun (i:Nat) => ((i:Nat):Int)
theorem a8M {e:List Nd} (h:s8 e = true):∀ n ∈ norm e,n = aim (blank n) (kids n) ∧ a0H n = true:=by
 intro n hn
 have hM:=a8I (K2 h).1
 obtain ⟨i,hi⟩:=List.mem_iff_getElem?.1 hn
 rw [← nth_getElem?] at hi
 have:=hM.node i n hi
 exact ⟨(of_decide_eq_true this).2.2.1,this⟩
def a9K (s:List UInt8):Nd:=(3,-1,-1,-1,0,s)
theorem b5O {s:List UInt8} (h:s ≠ []):Valid (.mk (a9K s) []):=by
 refine ⟨rfl,?_,by simp,⟨by show (1:Int) ≤ 3; omega,by show (3:Int) ≤ 28; omega,by show (0:Int) ≤ 0; omega,by show (0:Int) ≤ a2h 3; decide,?_⟩,rfl,trivial⟩
 · intro l hl _
   match l,hl with
   | [],_ => rfl
 · show (s ≠ [] ↔ ((3:Int) = 3 ∨ (3:Int) = 27))
   simp [h]
theorem c2L {s:List UInt8} (h:s ≠ []):s8 [a9K s] = true ∧ norm [a9K s] = [a9K s]:=by
 have hv:=b5O h
 have hf:flat (.mk (a9K s) []) 0 = [a9K s]:=rfl
 have hm:=b3q hv
 rw [hf] at hm
 have hm':s8 [a9K s] = true:=by rw [hm]; rfl
 refine ⟨hm',?_⟩
 have:=a1j hv (by rw [hf]; exact hm')
 rwa [hf] at this
theorem a8Q (x:List UInt8):∀ (l:List (List UInt8)) (i:Nat),0 ≤ j7 x l i → ∃ j,j7 x l i = ((i + j:Nat):Int) ∧ l[j]? = some x
 | [],i,h => by simp [j7] at h
 | y :: r,i,h => by
   rw [j7] at h ⊢
   by_cases e:y = x
   · rw [if_pos e]; exact ⟨0,by simp,by simp [e]⟩
   · rw [if_neg e] at h ⊢
     obtain ⟨j,h1,h2⟩:=a8Q x r (i + 1) h
     exact ⟨j + 1,by rw [h1]; omega,by simpa using h2⟩
mutual
theorem b6m {e:List Nd}:∀ (t:Tr) (i:Nat),Emb e i t → ∀ x ∈ b7Y t,∃ n ∈ e,blank n = x
 | .mk b ks,i,⟨n,hn,hb,hna,hks⟩,x,hx => by
   rw [b7Y] at hx
   rcases List.mem_append.1 hx with hx | hx
   · exact b3l ks i (kids n) hks x hx
   · simp at hx
     rw [nth_getElem?] at hn
     refine ⟨n,List.mem_of_getElem? hn,?_⟩
     rw [hx,hb]; rfl
theorem b3l {e:List Nd}:∀ (ts:List Tr) (i:Nat) (l:List Int),a0p e i l ts → ∀ x ∈ a8w ts,∃ n ∈ e,blank n = x
 | [],i,l,h,x,hx => by rw [a8w] at hx; cases hx
 | t :: ts,i,l,h,x,hx => by
   cases l with
   | nil => simp [a0p] at h
   | cons k l =>
     obtain ⟨_,_,h3,h4⟩:=h
     rw [a8w] at hx
     rcases List.mem_append.1 hx with hx | hx
     · exact b6m t _ h3 x hx
     · exact b3l ts i l h4 x hx
end
end Go.Proofs.YtelpjfihadaomaaGreatDoor.R
