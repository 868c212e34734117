import Derived.Test.YtelpjfihadaomaaGreatDoorTreX
namespace Go.Proofs.YtelpjfihadaomaaGreatDoor.R
open Go Go.Bm Go.Proofs
set_option linter.unusedVariables false
set_option linter.unusedSimpArgs false
set_option maxRecDepth 4000
def ids (n:Nat):List Int:=(List.range n).map fun (i:Nat) => ((i:Nat):Int)
theorem a8M {e:List Nd} (h:s8 e = true):∀ n ∈ norm e,n = aim (blank n) (kids n) ∧ a0H n = true:=by
 intro n hn
 have hM:=a8I (K2 h).1
 obtain ⟨i,hi⟩:=List.mem_iff_getElem?.1 hn
 rw [← nth_getElem?] at hi
 have:=hM.node i n hi
 exact ⟨(of_decide_eq_true this).2.2.1,this⟩
def a9K (s:List UInt8):Nd:=(3,-1,-1,-1,0,s)
end Go.Proofs.YtelpjfihadaomaaGreatDoor.R
