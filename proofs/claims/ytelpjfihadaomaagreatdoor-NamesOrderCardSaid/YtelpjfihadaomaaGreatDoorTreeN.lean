import Derived.Test.YtelpjfihadaomaaGreatDoorTreX
namespace Go.Proofs.YtelpjfihadaomaaGreatDoor.R
open Go Go.Bm Go.Proofs
set_option linter.unusedVariables false
set_option linter.unusedSimpArgs false
set_option maxRecDepth 4000
def ids (n:Nat):List Int:=(List.range n).map fun (i:Nat) => ((i:Nat):Int)
theorem a8M {e:List Nd} (h:s8 e = true):∀ n ∈ norm e,n = aim (blank n) (kids n) ∧ a0H n = true:=by
 intro n hn
 have hM:=a8I (K2 h).1
 obtain ⟨i,hi⟩:=List.mem_iff_getElem?.1 hn
 rw [← nth_getElem?] at hi
 have:=hM.node i n hi
 exact ⟨(of_decide_eq_true this).2.2.1,this⟩
def a9K (s:List UInt8):Nd:=(3,-1,-1,-1,0,s)
mutual
theorem b6m {e:List Nd}:∀ (t:Tr) (i:Nat),Emb e i t → ∀ x ∈ b7Y t,∃ n ∈ e,blank n = x
 | .mk b ks,i,⟨n,hn,hb,hna,hks⟩,x,hx => by
   rw [b7Y] at hx
   rcases List.mem_append.1 hx with hx | hx
   · exact b3l ks i (kids n) hks x hx
   · simp at hx
     rw [nth_getElem?] at hn
     refine ⟨n,List.mem_of_getElem? hn,?_⟩
     rw [hx,hb]; rfl
theorem b3l {e:List Nd}:∀ (ts:List Tr) (i:Nat) (l:List Int),a0p e i l ts → ∀ x ∈ a8w ts,∃ n ∈ e,blank n = x
 | [],i,l,h,x,hx => by rw [a8w] at hx; cases hx
 | t :: ts,i,l,h,x,hx => by
   cases l with
   | nil => simp [a0p] at h
   | cons k l =>
     obtain ⟨_,_,h3,h4⟩:=h
     rw [a8w] at hx
     rcases List.mem_append.1 hx with hx | hx
     · exact b6m t _ h3 x hx
     · exact b3l ts i l h4 x hx
end
end Go.Proofs.YtelpjfihadaomaaGreatDoor.R
