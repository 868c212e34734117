import Derived.Test.YtadonikkibahnaaGreatTreX
namespace Go.Proofs.YtadonikkibahnaaGreat.R
open Go Go.Bm Go.Proofs
set_option linter.unusedVariables false
set_option linter.unusedSimpArgs false
set_option maxRecDepth 4000
theorem norm_tree {e:List Nd} {t:Tr} (h:mayB e = true) (ht:Emb e (e.length - 1) t):Emb (norm e) ((norm e).length - 1) t:=by
 have hE:=emb_flat t [] [] (valid_emb (may_P h) t _ ht)
 simp only [List.nil_append,List.append_nil,List.length_nil,Nat.zero_add] at hE
 rw [norm_flat h ht,flat_len]; exact hE
end Go.Proofs.YtadonikkibahnaaGreat.R
