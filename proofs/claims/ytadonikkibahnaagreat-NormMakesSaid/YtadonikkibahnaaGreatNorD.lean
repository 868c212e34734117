import Derived.Test.YtadonikkibahnaaGreatNorC
open Option (bind_some)
open List (length_cons length_nil)
namespace Go.Proofs.YtadonikkibahnaaGreat.R
open Go Go.Bm Go.Proofs
set_option linter.unusedVariables false
set_option linter.unusedSimpArgs false
set_option maxRecDepth 4000
def fndS (l:List Sm) (x:List UInt8):Int:=if x ∈ nmS l then (((nmS l).idxOf x:Nat):Int) else -1
theorem find_loop (l:List Sm) (hl:l.length ≤ 100000) (x:List UInt8):∀ (suf pre:List Sm),l = pre ++ suf → x ∉ nmS pre →
  k390 T.rb l x (pre.length:Nat) = some (if x ∈ nmS suf then .inl (((nmS l).idxOf x:Nat):Int) else .inr ())
 | [],pre,he,hx => ob390 (by
   rw [List.append_nil] at he
   subst he
   simp only [b390,lt_self,cond_false]; rfl)
 | s :: suf,pre,he,hx => ob390 (by
   have hll:l.length = pre.length + (suf.length + 1):=by rw [he]; simp
   have hlt:decide (((pre.length:Nat):Int) < ((l.length:Nat):Int)) = true:=dt (by omega)
   have hin:inb ((pre.length:Nat):Int) l.length = true:=inb_t (by omega) (by omega)
   have hnt:nth l ((pre.length:Nat):Int).toNat = some s:=by rw [he]; exact nth_mid pre s suf
   have hnx:IntKind.i64.wrap (((pre.length:Nat):Int) + 1) = (((pre ++ [s]).length:Nat):Int):=next_mid pre s (by omega)
   have hnm:nmS (s :: suf) = s.1 :: nmS suf:=rfl
   simp only [b390,hlt,hin,hnt,cond_true,bind_some]
   by_cases e:s.1 = x
   · rw [show (s.1 == x) = true from beq_iff_eq.2 e,cond_true,if_pos (by rw [hnm,e]; exact List.mem_cons_self ..)]
     have:(nmS l).idxOf x = pre.length:=by
      rw [he,nmS_app,hnm,List.idxOf_append,if_neg hx,e,List.idxOf_cons_self,nmS_len,Nat.zero_add]
     rw [this]
   · have hx2:x ∉ nmS (pre ++ [s]):=by
      rw [nmS_app,List.mem_append]
      intro h
      rcases h with h | h
      · exact hx h
      · rw [show nmS [s] = [s.1] from rfl,List.mem_singleton] at h; exact e h.symm
     have ih:=find_loop l hl x suf (pre ++ [s]) (by simp [he]) hx2
     rw [show (s.1 == x) = false from beq_eq_false_iff_ne.2 e,cond_false,hnx,ih,hnm]
     by_cases hm:x ∈ nmS suf
     · rw [if_pos hm,if_pos (List.mem_cons_of_mem _ hm)]
     · have hm2:x ∉ s.1 :: nmS suf:=by
        rw [List.mem_cons]
        intro h
        rcases h with h | h
        · exact e h.symm
        · exact hm h
       rw [if_neg hm,if_neg hm2])
theorem Find_eq {l:List Sm} (hl:l.length ≤ 100000) (x:List UInt8):c104 T.rf l x = some (fndS l x):=or104 (by
 have h:=find_loop l hl x l [] rfl (by simp [nmS])
 rw [length_nil,show ((0:Nat):Int) = (0:Int) from rfl] at h
 simp only [r104,h,bind_some]
 unfold fndS
 by_cases hm:x ∈ nmS l
 · rw [if_pos hm,if_pos hm]
 · rw [if_neg hm,if_neg hm])
theorem knw_loop (l:List Sm) (hl:l.length ≤ 100000) (e:List Nd) (he0:e.length ≤ 1000000):∀ (suf pre:List Nd),e = pre ++ suf →
  k395 T.rb l e (pre.length:Nat) = some (if suf.all (okN (nmS l)) = true then .inr () else .inl false)
 | [],pre,he => ob395 (by
   rw [List.append_nil] at he
   subst he
   simp only [b395,lt_self,cond_false]; rfl)
 | n :: suf,pre,he => ob395 (by
   have hll:e.length = pre.length + (suf.length + 1):=by rw [he]; simp
   have hlt:decide (((pre.length:Nat):Int) < ((e.length:Nat):Int)) = true:=dt (by omega)
   have hin:inb ((pre.length:Nat):Int) e.length = true:=inb_t (by omega) (by omega)
   have hnt:nth e ((pre.length:Nat):Int).toNat = some n:=by rw [he]; exact nth_mid pre n suf
   have hnx:IntKind.i64.wrap (((pre.length:Nat):Int) + 1) = (((pre ++ [n]).length:Nat):Int):=next_mid pre n (by omega)
   have ih:=knw_loop l hl e he0 suf (pre ++ [n]) (by simp [he])
   simp only [b395,hlt,hin,hnt,cond_true,bind_some,Find_eq hl,hnx,ih]
   rw [List.all_cons]
   have hok:okN (nmS l) n = (decide (n.1 ≠ 27) && (decide (n.1 ≠ 3) || decide (n.2.2.2.2.2 ∈ nmS l))):=rfl
   rw [hok]
   by_cases h27:n.1 = 27
   · rw [bt h27,cond_true,df (show ¬ n.1 ≠ 27 from fun h => h h27)]; rfl
   rw [bf h27,cond_false,dt (show n.1 ≠ 27 from h27),Bool.true_and]
   by_cases h3:n.1 = 3
   · rw [bt h3,cond_true,df (show ¬ n.1 ≠ 3 from fun h => h h3),Bool.false_or]
     unfold fndS
     by_cases hm:n.2.2.2.2.2 ∈ nmS l
     · rw [if_pos hm,df (by omega),cond_false,dt hm,Bool.true_and]
     · rw [if_neg hm,dt (by omega),cond_true,df hm]; rfl
   · rw [bf h3,cond_false,dt (show n.1 ≠ 3 from h3),Bool.true_or,Bool.true_and])
theorem known_eq {l:List Sm} (hl:l.length ≤ 100000) {e:List Nd} (he:e.length ≤ 1000000):c105 T.rf l e = some (okE (nmS l) e):=or105 (by
 have h:=knw_loop l hl e he e [] rfl
 rw [length_nil,show ((0:Nat):Int) = (0:Int) from rfl] at h
 simp only [r105,refMay_eq he,bind_some,h]
 unfold okE
 cases mayB e
 · rfl
 rw [Bool.not_true,cond_false,Bool.true_and]
 cases e.all (okN (nmS l)) <;> rfl)
theorem chk_loop12 (l:List Sm) (hl:l.length ≤ 100000) (hs:∀ s ∈ l,s.2.2.length ≤ 1000000):∀ (suf pre:List Sm),l = pre ++ suf →
  k397 T.rb (eqsS pre) l (pre.length:Nat) = some (if (nodR (nmS pre) suf && suf.all (okS (nmS l))) = true then .inr (eqsS l) else .inl 1)
 | [],pre,he => ob397 (by
   rw [List.append_nil] at he
   subst he
   simp only [b397,lt_self,cond_false]; rfl)
 | s :: suf,pre,he => ob397 (by
   have hll:l.length = pre.length + (suf.length + 1):=by rw [he]; simp
   have hlt:decide (((pre.length:Nat):Int) < ((l.length:Nat):Int)) = true:=dt (by omega)
   have hin:inb ((pre.length:Nat):Int) l.length = true:=inb_t (by omega) (by omega)
   have hnt:nth l ((pre.length:Nat):Int).toNat = some s:=by rw [he]; exact nth_mid pre s suf
   have hnx:IntKind.i64.wrap (((pre.length:Nat):Int) + 1) = (((pre ++ [s]).length:Nat):Int):=next_mid pre s (by omega)
   have ih:=chk_loop12 l hl hs suf (pre ++ [s]) (by simp [he])
   have hsl:s.2.2.length ≤ 1000000:=hs s (by rw [he]; simp)
   have hq:=eqsS_len pre
   have hmost:=ble_most (show (eqsS pre).length + 1 ≤ 274877906944 by omega)
   have hmem:s.1 ∈ nmS l:=by rw [he,nmS_app]; exact List.mem_append_right _ (List.mem_cons_self ..)
   have hfn:fndS l s.1 = (((nmS l).idxOf s.1:Nat):Int):=if_pos hmem
   rw [eqsS_app] at ih
   simp only [b397,hlt,hin,hnt,cond_true,bind_some,Find_eq hl,known_eq hl hsl,hfn,hmost,Bool.and_true,hnx]
   rw [nodR,List.all_cons]
   by_cases hd:s.1 ∈ nmS pre
   · have:(nmS l).idxOf s.1 < pre.length:=by
      rw [he,nmS_app,List.idxOf_append,if_pos hd]
      have:=List.idxOf_lt_length_of_mem hd
      rw [nmS_len] at this; exact this
     rw [dt (by omega),cond_true,dt hd]; rfl
   · have:(nmS l).idxOf s.1 = pre.length:=by
      rw [he,nmS_app,List.idxOf_append,if_neg hd,show nmS (s :: suf) = s.1 :: nmS suf from rfl,List.idxOf_cons_self,nmS_len,Nat.zero_add]
     rw [df (by omega),cond_false,df hd,Bool.not_false,Bool.true_and]
     have hokS:okS (nmS l) s = (decide (s.2.2 = []) || okE (nmS l) s.2.2):=rfl
     rw [hokS]
     rw [show nmS (pre ++ [s]) = nmS pre ++ [s.1] from nmS_app _ _] at ih
     by_cases hne:s.2.2 = []
     · have h0:decide (((s.2.2.length:Nat):Int) > 0) = false:=df (by rw [hne]; simp)
       rw [h0,cond_false,dt hne,Bool.true_or,Bool.true_and]
       rw [show eqsS [s] = [] from by rw [eqsS_cons,if_pos hne]; rfl,List.append_nil] at ih
       rw [cond_false]
       exact ih
     · have hpos:0 < s.2.2.length:=List.length_pos_iff.2 hne
       have h0:decide (((s.2.2.length:Nat):Int) > 0) = true:=dt (by omega)
       rw [h0,cond_true,df hne,Bool.false_or]
       rw [show eqsS [s] = [(s.1,s.2.2)] from by rw [eqsS_cons,if_neg hne]; rfl] at ih
       cases okE (nmS l) s.2.2
       · rw [Bool.not_false,cond_true,Bool.false_and,Bool.and_false]; rfl
       · rw [Bool.not_true,cond_false,cond_true,Bool.true_and]
         exact ih)
theorem Chk12_eq {l:List Sm} (hl:l.length ≤ 1000) (hs:∀ s ∈ l,s.2.2.length ≤ 1000000):c103 T.rf l = some (chk12 l):=or103 (by
 have h:=chk_loop12 l (by omega) hs l [] rfl
 rw [length_nil,show ((0:Nat):Int) = (0:Int) from rfl,show eqsS [] = [] from rfl,show nmS [] = [] from rfl] at h
 have hq:=eqsS_len l
 simp only [r103,df (show ¬ ((l.length:Nat):Int) > 4000 by omega),cond_false,h,bind_some]
 unfold chk12 okL
 cases nodR [] l && l.all (okS (nmS l))
 · rfl
 rw [if_pos rfl,if_pos rfl]
 show (c110 T.rf (eqsS l)).bind _ = _
 rw [refOrd_eq (by omega) (fun q hq' => by obtain ⟨s,hs1,_,rfl⟩:=eqsS_mem hq'; exact hs s hs1),bind_some])
def pastN (n:Nd):Bool:=decide (n.1 = 22 ∨ n.1 = 23 ∨ n.1 = 24 ∨ n.1 = 25 ∨ n.1 = 20)
def pastE (e:List Nd):Bool:=e.any pastN
theorem isPast_eq (n:Nd):c79 T.rf n = some (pastN n):=or79 (by
 simp only [r79]
 unfold pastN
 by_cases h1:n.1 = 22
 · rw [bt h1,cond_true,cond_true,dt (by omega)]
 by_cases h2:n.1 = 23
 · rw [bf h1,cond_false,bt h2,cond_true,cond_true,dt (by omega)]
 by_cases h3:n.1 = 24
 · rw [bf h1,cond_false,bf h2,cond_false,bt h3,cond_true,cond_true,dt (by omega)]
 by_cases h4:n.1 = 25
 · rw [bf h1,cond_false,bf h2,cond_false,bf h3,cond_false,bt h4,cond_true,cond_true,dt (by omega)]
 by_cases h5:n.1 = 20
 · rw [bf h1,cond_false,bf h2,cond_false,bf h3,cond_false,bf h4,cond_false,bt h5,cond_true,dt (by omega)]
 · rw [bf h1,cond_false,bf h2,cond_false,bf h3,cond_false,bf h4,cond_false,bf h5,cond_false,df (by omega)])
theorem refIs_eq (n:Nd):c120 T.rf n.1 = some (pastN n):=or120 (by
 simp only [r120]
 unfold pastN
 by_cases h1:n.1 = 22
 · rw [bt h1,cond_true,dt (by omega)]
 by_cases h2:n.1 = 23
 · rw [bf h1,cond_false,bt h2,cond_true,dt (by omega)]
 by_cases h3:n.1 = 24
 · rw [bf h1,cond_false,bf h2,cond_false,bt h3,cond_true,dt (by omega)]
 by_cases h4:n.1 = 25
 · rw [bf h1,cond_false,bf h2,cond_false,bf h3,cond_false,bt h4,cond_true,dt (by omega)]
 by_cases h5:n.1 = 20
 · rw [bf h1,cond_false,bf h2,cond_false,bf h3,cond_false,bf h4,cond_false,bt h5,dt (by omega)]
 · rw [bf h1,cond_false,bf h2,cond_false,bf h3,cond_false,bf h4,cond_false,bf h5,df (by omega)])
theorem pastX_loop:∀ (suf pre:List Nd),pre.length + suf.length ≤ 1000000 →
  ∃ z,k254 T.rb (pre ++ suf) ((pre ++ suf).length:Nat) (pre.length:Nat) = some z ∧ (if pastE suf = true then ∃ j:Int,z = .inl j ∧ 0 ≤ j else z = .inr ())
 | [],pre,h => ⟨.inr (),ob254 (by simp only [b254,lt_end,lt_self,List.append_nil,cond_false]),by rw [if_neg (by simp [pastE])]⟩
 | n :: suf,pre,h => by
   simp only [length_cons] at h
   obtain ⟨z,ih,hz⟩:=pastX_loop suf (pre ++ [n]) (by simp; omega)
   simp only [List.append_assoc,List.singleton_append] at ih
   have hp:pastE (n :: suf) = (pastN n || pastE suf):=List.any_cons
   rw [hp]
   cases hn:pastN n
   · refine ⟨z,ob254 ?_,by rw [Bool.false_or]; exact hz⟩
     simp only [b254,lt_mid,inb_mid,nth_mid,cond_true,bind_some,isPast_eq,hn,cond_false,next_mid pre n (by omega),ih]
   · refine ⟨.inl ((pre.length:Nat):Int),ob254 ?_,by rw [Bool.true_or,if_pos rfl]; exact ⟨_,rfl,by omega⟩⟩
     simp only [b254,lt_mid,inb_mid,nth_mid,cond_true,bind_some,isPast_eq,hn]
theorem Has_eq {e:List Nd} (h:e.length ≤ 1000000):c76 T.rf e = some (pastE e):=or76 (by
 obtain ⟨z,h0,hz⟩:=pastX_loop e [] (by simpa using h)
 rw [List.nil_append,length_nil,show ((0:Nat):Int) = (0:Int) from rfl] at h0
 have hC:c77 T.rf e = some (pastE e):=or77 (by
  cases hp:pastE e
  · rw [hp,if_neg (by decide)] at hz
    subst hz
    have hI:c78 T.rf e = some (-1):=or78 (by simp only [r78,h0,bind_some])
    simp only [r77,hI,bind_some]; rfl
  · rw [hp,if_pos rfl] at hz
    obtain ⟨j,rfl,hj⟩:=hz
    have hI:c78 T.rf e = some j:=or78 (by simp only [r78,h0,bind_some])
    simp only [r77,hI,bind_some,dt (show j ≥ 0 from hj)])
 simp only [r76,hC,bind_some])
theorem refHas_loop (e:List Nd) (he0:e.length ≤ 1000000):∀ (suf pre:List Nd),e = pre ++ suf → k419 T.rb e (pre.length:Nat) = some (if pastE suf = true then .inl true else .inr ())
 | [],pre,he => ob419 (by
   rw [List.append_nil] at he
   subst he
   simp only [b419,lt_self,cond_false]; rfl)
 | n :: suf,pre,he => ob419 (by
   have hll:e.length = pre.length + (suf.length + 1):=by rw [he]; simp
   have hlt:decide (((pre.length:Nat):Int) < ((e.length:Nat):Int)) = true:=dt (by omega)
   have hin:inb ((pre.length:Nat):Int) e.length = true:=inb_t (by omega) (by omega)
   have hnt:nth e ((pre.length:Nat):Int).toNat = some n:=by rw [he]; exact nth_mid pre n suf
   have hnx:IntKind.i64.wrap (((pre.length:Nat):Int) + 1) = (((pre ++ [n]).length:Nat):Int):=next_mid pre n (by omega)
   have ih:=refHas_loop e he0 suf (pre ++ [n]) (by simp [he])
   have hp:pastE (n :: suf) = (pastN n || pastE suf):=List.any_cons
   simp only [b419,hlt,hin,hnt,cond_true,bind_some,refIs_eq,hnx,ih,hp]
   cases pastN n <;> rfl)
theorem refHas_eq {e:List Nd} (h:e.length ≤ 1000000):c119 T.rf e = some (pastE e):=or119 (by
 have h0:=refHas_loop e h e [] rfl
 rw [length_nil,show ((0:Nat):Int) = (0:Int) from rfl] at h0
 simp only [r119,h0,bind_some]
 cases pastE e <;> rfl)
def pastS (l:List Sm):Bool:=l.any fun s => pastE s.2.2
theorem pastS_cons (s:Sm) (l:List Sm):pastS (s :: l) = (pastE s.2.2 || pastS l):=List.any_cons
theorem pastL_loop:∀ (suf pre:List Sm),(∀ s ∈ suf,s.2.2.length ≤ 1000000) → pre.length + suf.length ≤ 1000000 →
  ∃ z,k253 T.rb (pre ++ suf) ((pre ++ suf).length:Nat) (pre.length:Nat) = some z ∧ (if pastS suf = true then ∃ j:Int,z = .inl j ∧ 0 ≤ j else z = .inr ())
 | [],pre,hs,h => ⟨.inr (),ob253 (by simp only [b253,lt_end,lt_self,List.append_nil,cond_false]),by rw [if_neg (by simp [pastS])]⟩
 | s :: suf,pre,hs,h => by
   simp only [length_cons] at h
   obtain ⟨z,ih,hz⟩:=pastL_loop suf (pre ++ [s]) (fun x hx => hs x (List.mem_cons_of_mem _ hx)) (by simp; omega)
   simp only [List.append_assoc,List.singleton_append] at ih
   have h1:c75 T.rf s = some (pastE s.2.2):=or75 (by simp only [r75,Has_eq (hs s (List.mem_cons_self ..)),bind_some])
   rw [pastS_cons]
   cases hn:pastE s.2.2
   · refine ⟨z,ob253 ?_,by rw [Bool.false_or]; exact hz⟩
     simp only [b253,lt_mid,inb_mid,nth_mid,cond_true,bind_some,h1,hn,cond_false,next_mid pre s (by omega),ih]
   · refine ⟨.inl ((pre.length:Nat):Int),ob253 ?_,by rw [Bool.true_or,if_pos rfl]; exact ⟨_,rfl,by omega⟩⟩
     simp only [b253,lt_mid,inb_mid,nth_mid,cond_true,bind_some,h1,hn]
theorem PastS_eq {l:List Sm} (hs:∀ s ∈ l,s.2.2.length ≤ 1000000) (h:l.length ≤ 1000000):c73 T.rf l = some (pastS l):=or73 (by
 obtain ⟨z,h0,hz⟩:=pastL_loop l [] hs (by simpa using h)
 rw [List.nil_append,length_nil,show ((0:Nat):Int) = (0:Int) from rfl] at h0
 cases hp:pastS l
 · rw [hp,if_neg (by decide)] at hz
   subst hz
   have hI:c74 T.rf l = some (-1):=or74 (by simp only [r74,h0,bind_some])
   simp only [r73,hI,bind_some]; rfl
 · rw [hp,if_pos rfl] at hz
   obtain ⟨j,rfl,hj⟩:=hz
   have hI:c74 T.rf l = some j:=or74 (by simp only [r74,h0,bind_some])
   simp only [r73,hI,bind_some,dt (show j ≥ 0 from hj)])
end Go.Proofs.YtadonikkibahnaaGreat.R
