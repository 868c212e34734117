import Derived.Test.YtelpjfihadaomaaGreatDoorNamF
namespace Go.Proofs.YtelpjfihadaomaaGreatDoor.R
open Go Go.Bm Go.Proofs
set_option linter.unusedVariables false
set_option linter.unusedSimpArgs false
set_option maxRecDepth 4000
def ghP:List Itm → List Pm
 | [] => []
 | x :: r => if x.1 = 3 then (x.2.1,x.2.2.1) :: ghP r else ghP r
theorem a2c:∀ l:List Itm,nmP (ghP l) = gn l
 | [] => rfl
 | x :: r => by
   have ih:=a2c r
   simp only [ghP,gn]
   split
   · simp only [nmP,List.map_cons] at ih ⊢; rw [ih]
   · exact ih
theorem a1b:∀ l:List Itm,(ghP l).length ≤ l.length
 | [] => Nat.le_refl _
 | x :: r => by have:=a1b r; simp only [ghP]; split <;> simp <;> omega
theorem a8L (x:Pm) (l:List Pm):nmP (x :: l) = x.1 :: nmP l:=rfl
theorem bs {a b:Str}:(a == b) = decide (a = b):=by
 by_cases h:a = b
 · rw [dt h]; exact beq_iff_eq.2 h
 · rw [df h]; exact beq_eq_false_iff_ne.2 h
theorem a5P:∀ (suf pre:List Itm) (d:List Pm),(pre ++ suf).length ≤ 1000000 → d.length ≤ pre.length → c0J T.rb d (pre ++ suf) (pre.length:Nat) = some (d ++ ghP suf)
 | [],pre,d,h,hd => c9Z (by simp only [b9y,j9,cond_false]; simp [ghP])
 | x :: suf,pre,d,h,hd => c9Z (by
   have hp:pre.length ≤ 1000000:=by simp at h; omega
   simp only [b9y,g8,a5,a6,cond_true,Option.bind_some,e9 pre x (by omega),ghP]
   by_cases h3:x.1 = 3
   · have ih:=a5P suf (pre ++ [x]) (d ++ [(x.2.1,x.2.2.1)]) (by simpa using h) (by simp; omega)
     simp only [List.append_assoc,List.singleton_append] at ih
     simp only [bt h3,cond_true,j5 (show d.length + 1 ≤ 274877906944 by omega),Bool.and_true,ih,if_pos h3]
   · have ih:=a5P suf (pre ++ [x]) d (by simpa using h) (by simp; omega)
     simp only [List.append_assoc,List.singleton_append] at ih
     simp only [bf h3,cond_false,ih,if_neg h3])
theorem b2k {l:List Itm} (h:l.length ≤ 1000000):c0a T.rf l = some (ghP l):=d8j (by
 have:=a5P l [] [] (by simpa using h) (by simp)
 simp only [List.nil_append,List.length_nil] at this
 rw [show ((0:Nat):Int) = (0:Int) from rfl] at this
 simp only [c5A,this,Option.bind_some])
end Go.Proofs.YtelpjfihadaomaaGreatDoor.R
