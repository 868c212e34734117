import Derived.Test.YtadonikkibahnaaGreatNorH
namespace Go.Proofs.YtadonikkibahnaaGreat.R
open Go Go.Bm Go.Proofs
set_option linter.unusedVariables false
set_option linter.unusedSimpArgs false
set_option maxRecDepth 4000
def one3 (op:Int):Nat:=if op = 3 then 0 else 1
mutual
def wX:Tr → Nat
 | .mk b ks => one3 b.1 + wXs ks
def wXs:List Tr → Nat
 | [] => 0
 | t :: r => wX t + wXs r
end
open Classical in
noncomputable def wAt (e:List Nd) (i:Nat):Nat:=if h:∃ t,Emb e i t then wX h.choose else 0
theorem netS_ok {l:List Sm} (h:(netS l).2 = 0):chk12 l = 0 ∧ pastS l = false ∧ netS l = ((opsI (nIn l) ++ opsF l l 0,rtsF l l 0,inpS l),0):=by
 unfold netS at h ⊢
 by_cases h1:chk12 l = 1
 · rw [if_pos h1] at h; cases h
 rw [if_neg h1] at h ⊢
 cases hp:pastS l
 case true => rw [hp,if_pos rfl] at h; cases h
 rw [hp,if_neg (by decide)] at h
 rw [if_neg (by decide)]
 by_cases h0:chk12 l = 0
 · rw [if_pos h0]; exact ⟨h0,rfl,rfl⟩
 · rw [if_neg h0] at h; exact absurd h h0
end Go.Proofs.YtadonikkibahnaaGreat.R
