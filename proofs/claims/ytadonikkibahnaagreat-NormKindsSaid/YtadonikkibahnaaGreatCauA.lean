import Derived.Test.YtadonikkibahnaaGreatTreeV
open Option (bind_some)
namespace Go.Proofs.YtadonikkibahnaaGreat.R
open Go Go.Bm Go.Proofs
set_option linter.unusedVariables false
set_option linter.unusedSimpArgs false
set_option maxRecDepth 4000
theorem IndexS_loop (x:List UInt8):∀ (suf pre:List (List UInt8)),pre.length + suf.length ≤ 1000000 →
  ∃ z,k162 T.rb (pre ++ suf) x ((pre ++ suf).length:Nat) (pre.length:Nat) = some z ∧ (match z with
   | .inl j => j.1 = pre ++ suf ∧ 0 ≤ j.2 ∧ x ∈ suf
   | .inr j => j = pre ++ suf ∧ x ∉ suf)
 | [],pre,h => ⟨.inr (pre ++ []),ob162 (by simp only [b162,lt_end,lt_self,List.append_nil,cond_false]),by simp⟩
 | y :: suf,pre,h => by
   simp only [List.length_cons] at h
   obtain ⟨z,ih,hz⟩:=IndexS_loop x suf (pre ++ [y]) (by simp; omega)
   simp only [List.append_assoc,List.singleton_append] at ih hz
   by_cases hx:x = y
   · refine ⟨.inl (pre ++ y :: suf,(pre.length:Nat)),ob162 ?_,rfl,by simp,by simp [hx]⟩
     simp only [b162,lt_mid,inb_mid,nth_mid,cond_true,bind_some,beq_iff_eq.2 hx]
   · refine ⟨z,ob162 ?_,?_⟩
     · simp only [b162,lt_mid,inb_mid,nth_mid,cond_true,cond_false,bind_some,beq_eq_false_iff_ne.2 hx,next_mid pre y (by omega)]
       exact ih
     · cases z with
       | inl j => exact ⟨hz.1,hz.2.1,List.mem_cons_of_mem _ hz.2.2⟩
       | inr j => simp only [List.mem_cons,not_or]; exact ⟨hz.1,hx,hz.2⟩
theorem ContainsS_eq {l:List (List UInt8)} (x:List UInt8) (h:l.length ≤ 1000000):c62 T.rf l x = some (l,decide (x ∈ l)):=or62 (by
 obtain ⟨z,hz,hp⟩:=IndexS_loop x l [] (by simpa using h)
 simp only [List.nil_append,List.length_nil] at hz hp
 have hI:∀ z,k162 T.rb l x (l.length:Nat) 0 = some z → c63 T.rf l x = some (match z with
   | .inl j => j
   | .inr j => (j,-1)):=fun z hz => or63 (by
  simp only [r63,hz]
  cases z <;> rfl)
 simp only [r62,hI z hz,bind_some]
 cases z with
 | inl j => rw [dt (show (j.2:Int) ≥ 0 from hp.2.1),dt hp.2.2,hp.1]
 | inr j => rw [df (show ¬ ((-1:Int) ≥ 0) by decide),df hp.2,hp.1])
def addV (l:List (List UInt8)) (x:List UInt8):List (List UInt8):=if x ∈ l then l else l ++ [x]
mutual
def nowT:Tr → List (List UInt8) → List (List UInt8)
 | .mk b ks,l => if b.1 = 21 ∨ b.1 = 24 then l else if b.1 = 3 then addV l b.2.2.2.2.2 else nowTs ks l
def nowTs:List Tr → List (List UInt8) → List (List UInt8)
 | [],l => l
 | t :: r,l => nowTs r (nowT t l)
end
theorem addV_len (l:List (List UInt8)) (x:List UInt8):l.length ≤ (addV l x).length ∧ (addV l x).length ≤ l.length + 1:=by
 unfold addV; split <;> simp
mutual
theorem nowT_len:∀ (t:Tr) (l:List (List UInt8)),l.length ≤ (nowT t l).length ∧ (nowT t l).length ≤ l.length + t.size
 | .mk b ks,l => by
   have h1:=addV_len l b.2.2.2.2.2
   have h2:=nowTs_len ks l
   rw [nowT,Tr.size]
   split
   · omega
   · split <;> omega
theorem nowTs_len:∀ (ts:List Tr) (l:List (List UInt8)),l.length ≤ (nowTs ts l).length ∧ (nowTs ts l).length ≤ l.length + sizes ts
 | [],l => by simp [nowTs,sizes]
 | t :: r,l => by
   have h1:=nowT_len t l
   have h2:=nowTs_len r (nowT t l)
   rw [nowTs,sizes]; omega
end
theorem addV_nodup {l:List (List UInt8)} (x:List UInt8) (h:l.Nodup):(addV l x).Nodup:=by
 unfold addV; split
 · exact h
 · rename_i hx
   rw [List.nodup_append]
   exact ⟨h,by simp,fun a ha b hb => by simp only [List.mem_singleton] at hb; subst hb; exact fun e => hx (e ▸ ha)⟩
mutual
theorem nowT_nodup:∀ (t:Tr) (l:List (List UInt8)),l.Nodup → (nowT t l).Nodup
 | .mk b ks,l,h => by
   have h2:=nowTs_nodup ks l h
   rw [nowT]
   split
   · exact h
   · split
     · exact addV_nodup _ h
     · exact h2
theorem nowTs_nodup:∀ (ts:List Tr) (l:List (List UInt8)),l.Nodup → (nowTs ts l).Nodup
 | [],l,h => by rw [nowTs]; exact h
 | t :: r,l,h => by rw [nowTs]; exact nowTs_nodup r _ (nowT_nodup t l h)
end
def outW:(List Nd × List (List UInt8)) ⊕ (List Nd × List (List UInt8)) → List Nd × List (List UInt8)
 | .inl u => u
 | .inr w => w
mutual
theorem walk_eq {e:List Nd} (he:e.length ≤ 1000000):∀ (t:Tr) (i:Nat) (l:List (List UInt8)),Emb e i t → l.length + t.size ≤ 1000000 →
  ∃ z,c61 T.rf e l (i:Nat) = some z ∧ outW z = (e,nowT t l)
 | .mk b ks,i,l,h,hb => by
   have hi:=emb_lt h
   obtain ⟨n,hn,hbn,hna,hks⟩:=h
   have hw:=walks_eq he ks i (kids n) [] l hks (by simpa using kids_len n) (by rw [Tr.size] at hb; omega)
   simp only [List.nil_append,List.length_nil] at hw
   rw [show ((0:Nat):Int) = (0:Int) from rfl] at hw
   rw [nowT,show b.1 = n.1 from by rw [hbn]; rfl,show b.2.2.2.2.2 = n.2.2.2.2.2 from by rw [hbn]; rfl]
   rw [Tr.size] at hb
   by_cases h21:n.1 = 21
   · refine ⟨.inl (e,l),or61 ?_,by rw [if_pos (Or.inl h21)]; rfl⟩
     simp only [r61,inb_nat,dt hi,cond_true,Int.toNat_natCast,hn,bind_some,bt h21]
   by_cases h24:n.1 = 24
   · refine ⟨.inl (e,l),or61 ?_,by rw [if_pos (Or.inr h24)]; rfl⟩
     simp only [r61,inb_nat,dt hi,cond_true,Int.toNat_natCast,hn,bind_some,bf h21,bt h24,cond_false]
   rw [if_neg (fun h => h.elim h21 h24)]
   by_cases h3:n.1 = 3
   · rw [if_pos h3,addV]
     have hc:=ContainsS_eq (l:=l) n.2.2.2.2.2 (by omega)
     by_cases hm:n.2.2.2.2.2 ∈ l
     · refine ⟨.inl (e,l),or61 ?_,by rw [if_pos hm]; rfl⟩
       simp only [r61,inb_nat,dt hi,cond_true,Int.toNat_natCast,hn,bind_some,bf h21,bf h24,cond_false,bt h3,hc,dt hm,Bool.not_true]
     · refine ⟨.inr (e,l ++ [n.2.2.2.2.2]),or61 ?_,by rw [if_neg hm]; rfl⟩
       simp only [r61,inb_nat,dt hi,cond_true,Int.toNat_natCast,hn,bind_some,bf h21,bf h24,cond_false,bt h3,hc,df hm,Bool.not_false,ble_most (show l.length + 1 ≤ 274877906944 by omega),Bool.and_true]
   · rw [if_neg h3]
     refine ⟨.inr (e,nowTs ks l),or61 ?_,rfl⟩
     simp only [r61,inb_nat,dt hi,cond_true,Int.toNat_natCast,hn,bind_some,bf h21,bf h24,cond_false,bf h3,kids_eq,hw]
theorem walks_eq {e:List Nd} (he:e.length ≤ 1000000):∀ (ts:List Tr) (i:Nat) (suf pre:List Int) (l:List (List UInt8)),Embs e i suf ts → pre.length + suf.length ≤ 3 → l.length + sizes ts ≤ 1000000 →
  k164 T.rb (pre ++ suf) e l ((pre ++ suf).length:Nat) (pre.length:Nat) = some (pre ++ suf,e,nowTs ts l)
 | [],i,[],pre,l,h,h2,h3 => ob164 (by simp only [b164,lt_end,lt_self,List.append_nil,cond_false,nowTs])
 | t :: ts,i,k :: suf,pre,l,h,h2,h3 => ob164 (by
   obtain ⟨hk0,hki,ht,hts⟩:=h
   rw [sizes] at h3
   simp only [List.length_cons] at h2
   have hl:=nowT_len t l
   obtain ⟨z,hz,ho⟩:=walk_eq he t k.toNat l ht (by omega)
   rw [Int.toNat_of_nonneg hk0] at hz
   have ih:=walks_eq he ts i suf (pre ++ [k]) (nowT t l) hts (by simp; omega) (by omega)
   simp only [List.append_assoc,List.singleton_append] at ih
   simp only [b164,lt_mid,inb_mid,nth_mid,cond_true,bind_some,hz,next_mid pre k (by omega)]
   rw [nowTs]
   cases z with
   | inl u => simp only [outW] at ho; subst ho; exact ih
   | inr u => simp only [outW] at ho; subst ho; exact ih)
 | [],i,_ :: _,_,_,h,_,_ => h.elim
 | _ :: _,i,[],_,_,h,_,_ => h.elim
end
open Classical in
noncomputable def needs (e:List Nd):List (List UInt8):=if h:mayB e = true then nowT (may_tree h).choose [] else []
theorem needs_of {e:List Nd} {t:Tr} (h:mayB e = true) (ht:Emb e (e.length - 1) t):needs e = nowT t []:=by
 rw [needs,dif_pos h,emb_one _ _ _ (may_tree h).choose_spec.1 ht]
theorem needs_not {e:List Nd} (h:¬ mayB e = true):needs e = []:=by rw [needs,dif_neg h]
theorem norm_not {e:List Nd} (h:¬ mayB e = true):norm e = []:=by rw [norm,subE,if_neg (fun x => h x.2.2)]
theorem needs_len (e:List Nd):(needs e).length ≤ 5001:=by
 by_cases h:mayB e = true
 · obtain ⟨t,ht,_,_,_,_,_,hs⟩:=may_tree h
   have:=nowT_len t []
   rw [needs_of h ht]; simp only [List.length_nil] at this; omega
 · rw [needs_not h]; simp
theorem needs_nodup (e:List Nd):(needs e).Nodup:=by
 by_cases h:mayB e = true
 · obtain ⟨t,ht,_⟩:=may_tree h
   rw [needs_of h ht]; exact nowT_nodup t [] List.nodup_nil
 · rw [needs_not h]; exact List.nodup_nil
theorem Needs_eq {e:List Nd} (h:e.length ≤ 1000000):c58 T.rf e = some (needs e):=or58 (by
 simp only [r58,pred_i h,Sub_eq h,bind_some]
 rw [show subE e ((e.length:Int) - 1) = norm e from rfl]
 by_cases hm:mayB e = true
 · obtain ⟨t,ht,hv,hs,_,_,_,hs5⟩:=may_tree hm
   have hE:=norm_tree hm ht
   have hp:=emb_lt hE
   have hnl:=norm_len (e:=e)
   obtain ⟨z,hz,ho⟩:=walk_eq (show (norm e).length ≤ 1000000 by omega) t _ [] hE (by simp; omega)
   rw [needs_of hm ht,dt (show (((norm e).length:Nat):Int) > 0 by omega),cond_true,last_i (fun x => by rw [x] at hp; simp at hp) (by omega),hz,bind_some]
   cases z with
   | inl u => simp only [outW] at ho; subst ho; rfl
   | inr u => simp only [outW] at ho; subst ho; rfl
 · rw [needs_not hm,norm_not hm]; rfl)
end Go.Proofs.YtadonikkibahnaaGreat.R
