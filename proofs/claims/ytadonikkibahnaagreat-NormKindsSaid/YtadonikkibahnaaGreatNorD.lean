import Derived.Test.YtadonikkibahnaaGreatNorC
open Option (bind_some)
namespace Go.Proofs.YtadonikkibahnaaGreat.R
open Go Go.Bm Go.Proofs
set_option linter.unusedVariables false
set_option linter.unusedSimpArgs false
set_option maxRecDepth 4000
def fndS (l:List Sm) (x:List UInt8):Int:=if x ∈ nmS l then (((nmS l).idxOf x:Nat):Int) else -1
theorem find_loop (l:List Sm) (hl:l.length ≤ 100000) (x:List UInt8):∀ (suf pre:List Sm),l = pre ++ suf → x ∉ nmS pre →
  k390 T.rb l x (pre.length:Nat) = some (if x ∈ nmS suf then .inl (((nmS l).idxOf x:Nat):Int) else .inr ())
 | [],pre,he,hx => ob390 (by
   rw [List.append_nil] at he
   subst he
   simp only [b390,lt_self,cond_false]; rfl)
 | s :: suf,pre,he,hx => ob390 (by
   have hll:l.length = pre.length + (suf.length + 1):=by rw [he]; simp
   have hlt:decide (((pre.length:Nat):Int) < ((l.length:Nat):Int)) = true:=dt (by omega)
   have hin:inb ((pre.length:Nat):Int) l.length = true:=inb_t (by omega) (by omega)
   have hnt:nth l ((pre.length:Nat):Int).toNat = some s:=by rw [he]; exact nth_mid pre s suf
   have hnx:IntKind.i64.wrap (((pre.length:Nat):Int) + 1) = (((pre ++ [s]).length:Nat):Int):=next_mid pre s (by omega)
   have hnm:nmS (s :: suf) = s.1 :: nmS suf:=rfl
   simp only [b390,hlt,hin,hnt,cond_true,bind_some]
   by_cases e:s.1 = x
   · rw [show (s.1 == x) = true from beq_iff_eq.2 e,cond_true,if_pos (by rw [hnm,e]; exact List.mem_cons_self ..)]
     have:(nmS l).idxOf x = pre.length:=by
      rw [he,nmS_app,hnm,List.idxOf_append,if_neg hx,e,List.idxOf_cons_self,nmS_len,Nat.zero_add]
     rw [this]
   · have hx2:x ∉ nmS (pre ++ [s]):=by
      rw [nmS_app,List.mem_append]
      intro h
      rcases h with h | h
      · exact hx h
      · rw [show nmS [s] = [s.1] from rfl,List.mem_singleton] at h; exact e h.symm
     have ih:=find_loop l hl x suf (pre ++ [s]) (by simp [he]) hx2
     rw [show (s.1 == x) = false from beq_eq_false_iff_ne.2 e,cond_false,hnx,ih,hnm]
     by_cases hm:x ∈ nmS suf
     · rw [if_pos hm,if_pos (List.mem_cons_of_mem _ hm)]
     · have hm2:x ∉ s.1 :: nmS suf:=by
        rw [List.mem_cons]
        intro h
        rcases h with h | h
        · exact e h.symm
        · exact hm h
       rw [if_neg hm,if_neg hm2])
theorem Find_eq {l:List Sm} (hl:l.length ≤ 100000) (x:List UInt8):c104 T.rf l x = some (fndS l x):=or104 (by
 have h:=find_loop l hl x l [] rfl (by simp [nmS])
 rw [List.length_nil,show ((0:Nat):Int) = (0:Int) from rfl] at h
 simp only [r104,h,bind_some]
 unfold fndS
 by_cases hm:x ∈ nmS l
 · rw [if_pos hm,if_pos hm]
 · rw [if_neg hm,if_neg hm])
def pastN (n:Nd):Bool:=decide (n.1 = 22 ∨ n.1 = 23 ∨ n.1 = 24 ∨ n.1 = 25 ∨ n.1 = 20)
def pastE (e:List Nd):Bool:=e.any pastN
theorem isPast_eq (n:Nd):c79 T.rf n = some (pastN n):=or79 (by
 simp only [r79]
 unfold pastN
 by_cases h1:n.1 = 22
 · rw [bt h1,cond_true,cond_true,dt (by omega)]
 by_cases h2:n.1 = 23
 · rw [bf h1,cond_false,bt h2,cond_true,cond_true,dt (by omega)]
 by_cases h3:n.1 = 24
 · rw [bf h1,cond_false,bf h2,cond_false,bt h3,cond_true,cond_true,dt (by omega)]
 by_cases h4:n.1 = 25
 · rw [bf h1,cond_false,bf h2,cond_false,bf h3,cond_false,bt h4,cond_true,cond_true,dt (by omega)]
 by_cases h5:n.1 = 20
 · rw [bf h1,cond_false,bf h2,cond_false,bf h3,cond_false,bf h4,cond_false,bt h5,cond_true,dt (by omega)]
 · rw [bf h1,cond_false,bf h2,cond_false,bf h3,cond_false,bf h4,cond_false,bf h5,cond_false,df (by omega)])
theorem pastX_loop:∀ (suf pre:List Nd),pre.length + suf.length ≤ 1000000 →
  ∃ z,k254 T.rb (pre ++ suf) ((pre ++ suf).length:Nat) (pre.length:Nat) = some z ∧ (if pastE suf = true then ∃ j:Int,z = .inl j ∧ 0 ≤ j else z = .inr ())
 | [],pre,h => ⟨.inr (),ob254 (by simp only [b254,lt_end,lt_self,List.append_nil,cond_false]),by rw [if_neg (by simp [pastE])]⟩
 | n :: suf,pre,h => by
   simp only [List.length_cons] at h
   obtain ⟨z,ih,hz⟩:=pastX_loop suf (pre ++ [n]) (by simp; omega)
   simp only [List.append_assoc,List.singleton_append] at ih
   have hp:pastE (n :: suf) = (pastN n || pastE suf):=List.any_cons
   rw [hp]
   cases hn:pastN n
   · refine ⟨z,ob254 ?_,by rw [Bool.false_or]; exact hz⟩
     simp only [b254,lt_mid,inb_mid,nth_mid,cond_true,bind_some,isPast_eq,hn,cond_false,next_mid pre n (by omega),ih]
   · refine ⟨.inl ((pre.length:Nat):Int),ob254 ?_,by rw [Bool.true_or,if_pos rfl]; exact ⟨_,rfl,by omega⟩⟩
     simp only [b254,lt_mid,inb_mid,nth_mid,cond_true,bind_some,isPast_eq,hn]
theorem Has_eq {e:List Nd} (h:e.length ≤ 1000000):c76 T.rf e = some (pastE e):=or76 (by
 obtain ⟨z,h0,hz⟩:=pastX_loop e [] (by simpa using h)
 rw [List.nil_append,List.length_nil,show ((0:Nat):Int) = (0:Int) from rfl] at h0
 have hC:c77 T.rf e = some (pastE e):=or77 (by
  cases hp:pastE e
  · rw [hp,if_neg (by decide)] at hz
    subst hz
    have hI:c78 T.rf e = some (-1):=or78 (by simp only [r78,h0,bind_some])
    simp only [r77,hI,bind_some]; rfl
  · rw [hp,if_pos rfl] at hz
    obtain ⟨j,rfl,hj⟩:=hz
    have hI:c78 T.rf e = some j:=or78 (by simp only [r78,h0,bind_some])
    simp only [r77,hI,bind_some,dt (show j ≥ 0 from hj)])
 simp only [r76,hC,bind_some])
def pastS (l:List Sm):Bool:=l.any fun s => pastE s.2.2
theorem pastS_cons (s:Sm) (l:List Sm):pastS (s :: l) = (pastE s.2.2 || pastS l):=List.any_cons
theorem pastL_loop:∀ (suf pre:List Sm),(∀ s ∈ suf,s.2.2.length ≤ 1000000) → pre.length + suf.length ≤ 1000000 →
  ∃ z,k253 T.rb (pre ++ suf) ((pre ++ suf).length:Nat) (pre.length:Nat) = some z ∧ (if pastS suf = true then ∃ j:Int,z = .inl j ∧ 0 ≤ j else z = .inr ())
 | [],pre,hs,h => ⟨.inr (),ob253 (by simp only [b253,lt_end,lt_self,List.append_nil,cond_false]),by rw [if_neg (by simp [pastS])]⟩
 | s :: suf,pre,hs,h => by
   simp only [List.length_cons] at h
   obtain ⟨z,ih,hz⟩:=pastL_loop suf (pre ++ [s]) (fun x hx => hs x (List.mem_cons_of_mem _ hx)) (by simp; omega)
   simp only [List.append_assoc,List.singleton_append] at ih
   have h1:c75 T.rf s = some (pastE s.2.2):=or75 (by simp only [r75,Has_eq (hs s (List.mem_cons_self ..)),bind_some])
   rw [pastS_cons]
   cases hn:pastE s.2.2
   · refine ⟨z,ob253 ?_,by rw [Bool.false_or]; exact hz⟩
     simp only [b253,lt_mid,inb_mid,nth_mid,cond_true,bind_some,h1,hn,cond_false,next_mid pre s (by omega),ih]
   · refine ⟨.inl ((pre.length:Nat):Int),ob253 ?_,by rw [Bool.true_or,if_pos rfl]; exact ⟨_,rfl,by omega⟩⟩
     simp only [b253,lt_mid,inb_mid,nth_mid,cond_true,bind_some,h1,hn]
theorem PastS_eq {l:List Sm} (hs:∀ s ∈ l,s.2.2.length ≤ 1000000) (h:l.length ≤ 1000000):c73 T.rf l = some (pastS l):=or73 (by
 obtain ⟨z,h0,hz⟩:=pastL_loop l [] hs (by simpa using h)
 rw [List.nil_append,List.length_nil,show ((0:Nat):Int) = (0:Int) from rfl] at h0
 cases hp:pastS l
 · rw [hp,if_neg (by decide)] at hz
   subst hz
   have hI:c74 T.rf l = some (-1):=or74 (by simp only [r74,h0,bind_some])
   simp only [r73,hI,bind_some]; rfl
 · rw [hp,if_pos rfl] at hz
   obtain ⟨j,rfl,hj⟩:=hz
   have hI:c74 T.rf l = some j:=or74 (by simp only [r74,h0,bind_some])
   simp only [r73,hI,bind_some,dt (show j ≥ 0 from hj)])
end Go.Proofs.YtadonikkibahnaaGreat.R
