import Derived.Test.YtadonikkibahnaaGreatCauN
import Derived.Test.YtadonikkibahnaaGreatCauL
open Option (bind_some)
namespace Go.Proofs.YtadonikkibahnaaGreat.R
open Go Go.Bm Go.Proofs
set_option linter.unusedVariables false
set_option linter.unusedSimpArgs false
set_option maxRecDepth 4000
theorem has2_loop (x:List UInt8):∀ (suf pre:List (List UInt8)),pre.length + suf.length ≤ 1000000 →
  k414 T.rb (pre ++ suf) x (pre.length:Nat) = some (if x ∈ suf then .inl true else .inr ())
 | [],pre,h => ob414 (by simp [b414,lt_self])
 | y :: suf,pre,h => ob414 (by
   simp only [List.length_cons] at h
   have ih:=has2_loop x suf (pre ++ [y]) (by simp; omega)
   simp only [List.append_assoc,List.singleton_append] at ih
   simp only [b414,lt_mid,inb_mid,nth_mid,cond_true,bind_some,next_mid pre y (by omega),ih]
   by_cases e:y = x
   · subst e; rw [beq_self_eq_true,cond_true]; simp
   · rw [beq_eq_false_iff_ne.2 e,cond_false]
     simp [Ne.symm e])
theorem has2_eq {l:List (List UInt8)} (x:List UInt8) (h:l.length ≤ 1000000):c118 T.rf l x = some (decide (x ∈ l)):=or118 (by
 have:=has2_loop x l [] (by simpa using h)
 simp only [List.nil_append,List.length_nil] at this
 simp only [r118]
 rw [show (0:Int) = ((0:Nat):Int) from rfl,this]
 by_cases e:x ∈ l
 · rw [if_pos e,dt e]; rfl
 · rw [if_neg e,df e]; rfl)
def tkF (n:Nat) (V:List Nat):List Bool:=rowF n fun j => decide (j ∈ V)
def WaitP (l:List Eqn) (V:List Nat) (ns:List (List UInt8)) (p:Nat):(List Bool × Bool) ⊕ List Bool → Prop
 | .inl u => u = (tkF l.length V,true) ∧ ∃ j,j < l.length ∧ j ∉ V ∧ nmL l j ∈ ns
 | .inr u => u = tkF l.length V ∧ ∀ j,p ≤ j → j < l.length → nmL l j ∈ ns → j ∈ V
theorem waits_loop (l:List Eqn) (hl:l.length ≤ 1000) (V:List Nat) (ns:List (List UInt8)) (hns:ns.length ≤ 1000000):∀ (suf pre:List Eqn),l = pre ++ suf →
  ∃ z,k413 T.rb (tkF l.length V) (pre ++ suf) ns (pre.length:Nat) = some z ∧ WaitP l V ns pre.length z
 | [],pre,he => by
   rw [List.append_nil] at he
   exact ⟨.inr (tkF l.length V),ob413 (by simp only [b413,lt_end,lt_self,List.append_nil,cond_false]),rfl,fun j h1 h2 => by rw [he] at h2; omega⟩
 | q :: suf,pre,he => by
   have hll:l.length = pre.length + (suf.length + 1):=by rw [he]; simp
   have hqa:nmL l pre.length = q.1:=by rw [nmL,he,eqAt_mid]
   have hp:pre.length < l.length:=by omega
   have htl:(tkF l.length V).length = l.length:=rowF_len _ _
   have htg:nth (tkF l.length V) pre.length = some (decide (pre.length ∈ V)):=rowF_get _ hp
   obtain ⟨z,ih,hz⟩:=waits_loop l hl V ns hns suf (pre ++ [q]) (by simp [he])
   simp only [List.append_assoc,List.singleton_append] at ih
   have go:(nmL l pre.length ∈ ns → pre.length ∈ V) → WaitP l V ns pre.length z:=fun hh => by
    cases z with
    | inl u => exact hz
    | inr u =>
      refine ⟨hz.1,fun j h1 h2 h3 => ?_⟩
      by_cases e:j = pre.length
      · subst e; exact hh h3
      · exact hz.2 j (by simp; omega) h2 h3
   by_cases hv:pre.length ∈ V
   · refine ⟨z,ob413 ?_,go fun _ => hv⟩
     simp only [b413,lt_mid,inb_mid,nth_mid,cond_true,bind_some]
     simp only [inb_nat,htl,dt hp,cond_true,Int.toNat_natCast,htg,bind_some,dt hv,Bool.not_true,cond_false,next_mid pre q (by omega)]
     exact ih
   · by_cases hm:q.1 ∈ ns
     · refine ⟨.inl (tkF l.length V,true),ob413 ?_,rfl,pre.length,hp,hv,by rw [hqa]; exact hm⟩
       simp only [b413,lt_mid,inb_mid,nth_mid,cond_true,bind_some]
       simp only [inb_nat,htl,dt hp,cond_true,Int.toNat_natCast,htg,bind_some,df hv,Bool.not_false,has2_eq _ hns,dt hm]
     · refine ⟨z,ob413 ?_,go fun h => absurd (hqa ▸ h) hm⟩
       simp only [b413,lt_mid,inb_mid,nth_mid,cond_true,bind_some]
       simp only [inb_nat,htl,dt hp,cond_true,Int.toNat_natCast,htg,bind_some,df hv,Bool.not_false,has2_eq _ hns,df hm,cond_false,next_mid pre q (by omega)]
       exact ih
theorem waits_eq {l:List Eqn} (hl:l.length ≤ 1000) (V:List Nat) (i:Nat):c117 T.rf (tkF l.length V) l (nsL l i) = some (tkF l.length V,!(decide (waitsN (DL l) l.length V i = 0))):=or117 (by
 have hn:=needs_len (eqAt l i).2
 obtain ⟨z,h0,hz⟩:=waits_loop l hl V (nsL l i) (by rw [nsL]; omega) l [] rfl
 rw [List.nil_append,List.length_nil,show ((0:Nat):Int) = (0:Int) from rfl] at h0
 simp only [r117,h0,bind_some]
 cases z with
 | inl u =>
   obtain ⟨hu,j,h1,h2,h3⟩:=hz
   rw [hu,df (fun h => h2 (waitsN_zero.1 h j h1 (dt h3)))]; rfl
 | inr u =>
   obtain ⟨hu,hz⟩:=hz
   rw [hu,dt (waitsN_zero.2 fun j h1 h3 => hz j (by simp) h1 (of_decide_eq_true h3))]; rfl)
noncomputable def ndF (l:List Eqn):List (List (List UInt8)):=rowF l.length (nsL l)
theorem nds_loop (l:List Eqn) (hl:l.length ≤ 1000) (hq:∀ q ∈ l,q.2.length ≤ 1000000):∀ (suf pre:List Eqn),l = pre ++ suf →
  k415 T.rb (rowF pre.length (nsL l)) (pre ++ suf) (pre.length:Nat) = some (ndF l)
 | [],pre,he => ob415 (by
   rw [List.append_nil] at he
   subst he
   simp only [b415,lt_end,lt_self,List.append_nil,cond_false,ndF])
 | q :: suf,pre,he => ob415 (by
   have hll:l.length = pre.length + (suf.length + 1):=by rw [he]; simp
   have hqa:nsL l pre.length = needs q.2:=by rw [nsL,he,eqAt_mid]
   have ih:=nds_loop l hl hq suf (pre ++ [q]) (by simp [he])
   have hr:rowF (pre ++ [q]).length (nsL l) = rowF pre.length (nsL l) ++ [needs q.2]:=by
    rw [List.length_append,List.length_singleton,rowF,List.range_succ,List.map_append,← hqa]; rfl
   rw [hr] at ih
   simp only [List.append_assoc,List.singleton_append] at ih
   simp only [b415,lt_mid,inb_mid,nth_mid,cond_true,bind_some,refNeeds_eq (hq q (by rw [he]; simp)),rowF_len,ble_most (show pre.length + 1 ≤ 274877906944 by omega),Bool.and_true,next_mid pre q (by omega)]
   exact ih)
theorem pick_loop {l:List Eqn} (hl:l.length ≤ 1000) (V:List Nat):∀ (m:Nat) (nx:Int),m ≤ l.length →
  k417 T.rb (ndF l) (tkF l.length V) l nx ((m:Int) - 1) = some (ndF l,tkF l.length V,match (List.range m).find? (rdy (DL l) l.length V) with
   | some i => ((i:Nat):Int)
   | none => nx)
 | 0,nx,hm => ob417 (by
   simp only [b417]
   rw [df (by omega),cond_false]; rfl)
 | m + 1,nx,hm => ob417 (by
   have ih:=fun nx => pick_loop hl V m nx (by omega)
   have htl:(tkF l.length V).length = l.length:=rowF_len _ _
   have hnl:(ndF l).length = l.length:=rowF_len _ _
   have htg:nth (tkF l.length V) m = some (decide (m ∈ V)):=rowF_get _ (by omega)
   have hng:nth (ndF l) m = some (nsL l m):=rowF_get _ (by omega)
   rw [show ((m + 1:Nat):Int) - 1 = ((m:Nat):Int) by omega]
   have hfind:(match (List.range (m + 1)).find? (rdy (DL l) l.length V) with
    | some i => ((i:Nat):Int)
    | none => nx) = (match (List.range m).find? (rdy (DL l) l.length V) with
    | some i => ((i:Nat):Int)
    | none => if rdy (DL l) l.length V m = true then ((m:Nat):Int) else nx):=by
    rw [List.range_succ,List.find?_append]
    cases (List.range m).find? (rdy (DL l) l.length V) with
    | some i => rfl
    | none =>
      simp only [Option.none_or,List.find?_cons,List.find?_nil]
      cases rdy (DL l) l.length V m <;> rfl
   rw [hfind]
   simp only [b417]
   rw [dt (show ((m:Nat):Int) ≥ 0 by omega),cond_true]
   simp only [inb_nat,htl,hnl,dt (show m < l.length by omega),cond_true,Int.toNat_natCast,htg,bind_some,wr_pred (show m < 4611686018427387904 by omega)]
   by_cases hv:m ∈ V
   · rw [show rdy (DL l) l.length V m = false from by rw [rdy,dt hv]; rfl]
     simp only [dt hv,Bool.not_true,cond_false]
     exact ih nx
   · simp only [df hv,Bool.not_false,cond_true,hng,bind_some,waits_eq hl]
     by_cases hw:waitsN (DL l) l.length V m = 0
     · rw [show rdy (DL l) l.length V m = true from by rw [rdy,df hv,dt hw]; rfl,if_pos rfl]
       simp only [dt hw,Bool.not_true,Bool.not_false,cond_true]
       exact ih _
     · rw [show rdy (DL l) l.length V m = false from by rw [rdy,df hw,Bool.and_false],if_neg (by decide)]
       simp only [df hw,Bool.not_false,Bool.not_true,cond_false]
       exact ih nx)
def outR:(List (List (List UInt8)) × List Bool × List Int × Int) ⊕ (List (List (List UInt8)) × List Bool × List Int) → List Int × Int
 | .inl u => u.2.2
 | .inr w => (w.2.2,0)
theorem tk_set {n i:Nat} (V:List Nat):setNth (tkF n V) i true = tkF n (V ++ [i]):=by
 rw [tkF,rowF_set]
 refine rowF_congr fun j _ => ?_
 by_cases e:j = i
 · subst e; simp
 · simp [e]
theorem ref_loop {l:List Eqn} (hl:l.length ≤ 1000):∀ (f:Nat) (V:List Nat),Val (DL l) l.length V → l.length ≤ V.length + f →
  ∃ z,k416 T.rb (ndF l) (tkF l.length V) (ints V) l = some z ∧ outR z = if (greedy (DL l) l.length f V).length < l.length then ([],12) else (ints (greedy (DL l) l.length f V),0):=by
 intro f V hV hf
 have hvl:=val_len hV
 by_cases hlt:V.length < l.length
 · have hp:=pick_loop hl V l.length (-1) (Nat.le_refl _)
   rw [show (List.range l.length).find? (rdy (DL l) l.length V) = nextO (DL l) l.length V from rfl] at hp
   match f,hf with
   | 0,hf => omega
   | f + 1,hf =>
     rw [greedy]
     cases hnx:nextO (DL l) l.length V with
     | none =>
       rw [hnx] at hp
       refine ⟨.inl (ndF l,tkF l.length V,[],12),ob416 ?_,by rw [if_pos hlt]; rfl⟩
       simp only [b416,ints_len]
       rw [dt (by omega),cond_true,wr_pred (by omega),hp,bind_some,dt (show (-1:Int) < 0 by omega),cond_true]
     | some i =>
       have hs:=next_spec.1 hnx
       rw [hnx] at hp
       obtain ⟨z,hz,ho⟩:=ref_loop hl f (V ++ [i]) (Val.snoc hV hs.2.1 hs.1) (by simp; omega)
       refine ⟨z,ob416 ?_,ho⟩
       have htl:(tkF l.length V).length = l.length:=rowF_len _ _
       simp only [b416,ints_len]
       rw [dt (by omega),cond_true,wr_pred (by omega),hp,bind_some,df (show ¬ (((i:Nat):Int) < 0) by omega),cond_false]
       simp only [inb_nat,htl,dt hs.2.1,cond_true,Int.toNat_natCast,blt_t hs.2.1,ble_most (show V.length + 1 ≤ 274877906944 by omega),Bool.and_true,tk_set,show ints V ++ [((i:Nat):Int)] = ints (V ++ [i]) from by rw [ints_app]; rfl]
       exact hz
 · have hg:greedy (DL l) l.length f V = V:=by
    cases f with
    | zero => rfl
    | succ f => rw [greedy,next_full hV (by omega)]
   rw [hg,if_neg hlt]
   refine ⟨.inr (ndF l,tkF l.length V,ints V),ob416 ?_,rfl⟩
   simp only [b416,ints_len]
   rw [df (by omega),cond_false]
theorem refOrd_eq {l:List Eqn} (hl:l.length ≤ 1000) (hq:∀ q ∈ l,q.2.length ≤ 1000000):c110 T.rf l = some (orderL l):=or110 (by
 have h0:=nds_loop l hl hq l [] rfl
 rw [List.nil_append,List.length_nil,show ((0:Nat):Int) = (0:Int) from rfl,show rowF 0 (nsL l) = [] from rfl] at h0
 obtain ⟨z,hz,ho⟩:=ref_loop hl l.length [] Val.nil (by simp)
 rw [show tkF l.length [] = List.replicate l.length false from by rw [rowF_rep]; exact rowF_congr fun j _ => by simp,show ints [] = [] from rfl] at hz
 have hm:inb' ((l.length:Nat):Int) most = true:=inb'_t (by omega) (by rw [show most = 274877906944 from rfl]; omega)
 have hm2:inb' ((l.length:Nat):Int) l.length = true:=inb'_t (by omega) (by omega)
 simp only [r110,df (show ¬ (((l.length:Nat):Int) > 4000) by omega),cond_false,h0,bind_some,hm,hm2,cond_true,hz]
 rw [orderL,ordO,← ho]
 cases z <;> rfl)
end Go.Proofs.YtadonikkibahnaaGreat.R
