import Derived.Test.YtadonikkibahnaaGreatCauA
open Option (bind_some)
open List (length_append length_cons length_nil)
namespace Go.Proofs.YtadonikkibahnaaGreat.R
open Go Go.Bm Go.Proofs
set_option linter.unusedVariables false
set_option linter.unusedSimpArgs false
set_option maxRecDepth 4000
def stepL (n:Nd) (f:Bool) (F:List Bool):List Bool:=(kids n).foldl (fun F k => setNth F k.toNat (f || (n.1 == 21 || n.1 == 24))) F
def laterR (e:List Nd):Nat → List Bool → List Bool
 | 0,F => F
 | m + 1,F => laterR e m (stepL (e.getD m nd0) (F.getD m false) F)
theorem setNth_len {α:Type} (l:List α) (i:Nat) (y:α):(setNth l i y).length = l.length:=by rw [setNth_set,List.length_set]
theorem foldl_len (v:Bool):∀ (ks:List Int) (F:List Bool),(ks.foldl (fun F k => setNth F k.toNat v) F).length = F.length
 | [],F => rfl
 | k :: r,F => by rw [List.foldl_cons,foldl_len v r,setNth_len]
theorem nth_setNth {α:Type} {l:List α} {i j:Nat} (y:α) (h:i ≠ j):nth (setNth l i y) j = nth l j:=by
 rw [setNth_set,nth_getElem?,nth_getElem?,List.getElem?_set_ne h]
theorem later2_loop {e:List Nd} (he:e.length ≤ 1000000) {i:Nat} {n:Nd} (hn:nth e i = some n) (hi:i < e.length) (f:Bool):∀ (suf pre:List Int) (F:List Bool),F.length = e.length → nth F i = some f → (∀ k ∈ suf,0 ≤ k ∧ k < i) → pre.length + suf.length ≤ 1000 →
  k406 T.rb F (pre ++ suf) e (i:Nat) (pre.length:Nat) = some (suf.foldl (fun F k => setNth F k.toNat (f || (n.1 == 21 || n.1 == 24))) F,pre ++ suf)
 | [],pre,F,hF,hf,hs,hl => ob406 (by simp only [b406,lt_end,lt_self,List.append_nil,cond_false,List.foldl_nil])
 | k :: suf,pre,F,hF,hf,hs,hl => ob406 (by
   have hk:=hs k List.mem_cons_self
   simp only [length_cons] at hl
   obtain ⟨j,rfl⟩:∃ j:Nat,k = j:=⟨k.toNat,by omega⟩
   have hj:j < F.length:=by omega
   have ih:=later2_loop he hn hi f suf (pre ++ [(j:Int)]) (setNth F j (f || (n.1 == 21 || n.1 == 24))) (by rw [setNth_len]; exact hF) (by rw [nth_setNth _ (by omega)]; exact hf) (fun x hx => hs x (List.mem_cons_of_mem _ hx)) (by simp; omega)
   simp only [List.append_assoc,List.singleton_append] at ih
   rw [List.foldl_cons,Int.toNat_natCast]
   simp only [b406,lt_mid,inb_mid,nth_mid,cond_true,bind_some]
   simp only [inb_nat,dt (show i < F.length by omega),dt hi,dt hj,cond_true,Int.toNat_natCast,hf,hn,bind_some,blt_t hj,next_mid pre (j:Int) (by omega)]
   cases f with
   | true => simp only [Bool.true_or,cond_true] at ih ⊢; exact ih
   | false =>
     simp only [Bool.false_or,cond_false] at ih ⊢
     cases h21:(n.1 == 21) with
     | true => rw [h21] at ih; simp only [Bool.true_or,cond_true] at ih ⊢; exact ih
     | false => rw [h21] at ih; simp only [Bool.false_or,cond_false] at ih ⊢; exact ih)
theorem later0_loop {e:List Nd} (he:e.length ≤ 1000000) (hA:Ahead e):∀ (m:Nat) (F:List Bool),m ≤ e.length → F.length = e.length → k405 T.rb F e ((m:Int) - 1) = some (laterR e m F)
 | 0,F,hm,hF => ob405 (by
   simp only [b405]
   rw [df (by omega),cond_false]; rfl)
 | m + 1,F,hm,hF => ob405 (by
   have hn:=getD_nth (show m < e.length by omega)
   have hg:nth F m = some (F.getD m false):=by rw [nth_t (by omega),List.getD_eq_getElem?_getD,List.getElem?_eq_getElem (by omega)]; rfl
   have h2:=later2_loop he hn (by omega) (F.getD m false) (kids (e.getD m nd0)) [] F hF hg (hA m _ hn) (by have:=kids_len (e.getD m nd0); rw [length_nil,Nat.zero_add]; omega)
   rw [List.nil_append,length_nil,show ((0:Nat):Int) = (0:Int) from rfl] at h2
   have ih:=later0_loop he hA m (stepL (e.getD m nd0) (F.getD m false) F) (by omega) (by rw [stepL,foldl_len]; exact hF)
   rw [show ((m + 1:Nat):Int) - 1 = ((m:Nat):Int) by omega]
   simp only [b405]
   rw [dt (show ((m:Nat):Int) ≥ 0 by omega),cond_true,inb_nat,dt (by omega),cond_true,Int.toNat_natCast,hn,bind_some,refKids_eq,bind_some,h2,bind_some,wr_pred (by omega),laterR]
   exact ih)
mutual
def latT:Tr → Bool → List Bool
 | .mk b ks,f => latTs ks (f || (b.1 == 21 || b.1 == 24)) ++ [f]
def latTs:List Tr → Bool → List Bool
 | [],_ => []
 | t :: r,f => latT t f ++ latTs r f
end
def RootsV:List Tr → Bool → List Bool → Prop
 | [],_,M => M = []
 | t :: r,v,M => ∃ M0 M2,M = M0 ++ v :: M2 ∧ M0.length + 1 = t.size ∧ RootsV r v M2
theorem set_mid {α:Type} (a:List α) (x:α) (r:List α) (y:α) {i:Nat} (h:i = a.length):setNth (a ++ x :: r) i y = a ++ y :: r:=by
 subst h; rw [setNth_set]; simp
theorem set_roots (v:Bool):∀ (ks:List Tr) (A M C:List Bool),M.length = sizes ks → ∃ M',(roots ks A.length).foldl (fun F k => setNth F k.toNat v) (A ++ (M ++ C)) = A ++ (M' ++ C) ∧ RootsV ks v M'
 | [],A,M,C,h => ⟨[],by rw [List.eq_nil_of_length_eq_zero (show M.length = 0 by rw [h]; rfl)]; rfl,rfl⟩
 | t :: r,A,M,C,h => by
   have hp:=t.size_pos
   rw [sizes] at h
   have hM:M = M.take (t.size - 1) ++ (M.drop (t.size - 1)).headD false :: M.drop t.size:=by
    conv => lhs; rw [← List.take_append_drop (t.size - 1) M]
    rw [List.drop_eq_getElem_cons (by omega),show t.size - 1 + 1 = t.size by omega]; rfl
   generalize hM0:M.take (t.size - 1) = M0 at hM
   generalize (M.drop (t.size - 1)).headD false = x at hM
   have h0:M0.length = t.size - 1:=by rw [← hM0,List.length_take]; omega
   have h2:(M.drop t.size).length = sizes r:=by rw [List.length_drop]; omega
   obtain ⟨M',ih,hR⟩:=set_roots v r (A ++ (M0 ++ [v])) (M.drop t.size) C h2
   refine ⟨M0 ++ v :: M',?_,M0,M',rfl,by omega,hR⟩
   rw [hM,roots,List.foldl_cons,Int.toNat_natCast]
   have e1:A ++ (M0 ++ x :: M.drop t.size ++ C) = (A ++ M0) ++ x :: (M.drop t.size ++ C):=by simp
   rw [e1,set_mid _ _ _ _ (by rw [length_append]; omega)]
   have e2:(A ++ M0) ++ v :: (M.drop t.size ++ C) = (A ++ (M0 ++ [v])) ++ (M.drop t.size ++ C):=by simp
   have e3:(A ++ (M0 ++ [v])).length = A.length + t.size:=by simp; omega
   rw [e2,← e3,ih]
   simp
theorem getD_mid {α:Type} (A:List α) (x:α) (C:List α) (d:α) {i:Nat} (h:i = A.length):(A ++ x :: C).getD i d = x:=by
 subst h; rw [List.getD_eq_getElem?_getD,List.getElem?_append_right (Nat.le_refl _)]; simp
mutual
theorem lat_tree:∀ (t:Tr) (pre suf:List Nd) (A M C:List Bool) (f:Bool),Valid t → A.length = pre.length → M.length + 1 = t.size →
  laterR (pre ++ (flat t pre.length ++ suf)) (pre.length + t.size) (A ++ (M ++ f :: C)) = laterR (pre ++ (flat t pre.length ++ suf)) pre.length (A ++ (latT t f ++ C))
 | .mk b ks,pre,suf,A,M,C,f,⟨h1,h2,h3,h4,h5,h6⟩,hA,hM => by
   rw [Tr.size] at hM
   have hr:=roots_len ks pre.length
   have hk:kids (aim b (roots ks pre.length)) = roots ks pre.length:=h2 _ hr fun x hx => by have:=roots_ge ks _ x hx; omega
   have hn:(pre ++ (flat (.mk b ks) pre.length ++ suf)).getD (pre.length + sizes ks) nd0 = aim b (roots ks pre.length):=by
    rw [flat,show pre ++ (flats ks pre.length ++ [aim b (roots ks pre.length)] ++ suf) = (pre ++ flats ks pre.length) ++ aim b (roots ks pre.length) :: suf by simp]
    exact getD_mid _ _ _ _ (by rw [length_append,flats_len])
   have hf:(A ++ (M ++ f :: C)).getD (pre.length + sizes ks) false = f:=by
    rw [← List.append_assoc]
    exact getD_mid _ _ _ _ (by rw [length_append]; omega)
   obtain ⟨M',hs,hR⟩:=set_roots (f || (b.1 == 21 || b.1 == 24)) ks A M (f :: C) (by omega)
   rw [hA] at hs
   have hfo:=lat_forest ks pre ([aim b (roots ks pre.length)] ++ suf) A M' (f :: C) _ h6 hA hR
   rw [Tr.size,← Nat.add_assoc,laterR,hn,hf,stepL,hk,aim_op,hs]
   have e1:pre ++ (flats ks pre.length ++ ([aim b (roots ks pre.length)] ++ suf)) = pre ++ (flat (.mk b ks) pre.length ++ suf):=by rw [flat]; simp
   rw [e1] at hfo
   rw [hfo,latT]
   simp
theorem lat_forest:∀ (ks:List Tr) (pre suf:List Nd) (A M C:List Bool) (v:Bool),Valids ks → A.length = pre.length → RootsV ks v M →
  laterR (pre ++ (flats ks pre.length ++ suf)) (pre.length + sizes ks) (A ++ (M ++ C)) = laterR (pre ++ (flats ks pre.length ++ suf)) pre.length (A ++ (latTs ks v ++ C))
 | [],pre,suf,A,M,C,v,_,hA,hR => by rw [show M = [] from hR,sizes,latTs]; rfl
 | t :: r,pre,suf,A,M,C,v,⟨hv1,hv2⟩,hA,⟨M0,M2,hM,h0,hR⟩ => by
   have h3:=lat_tree t pre (flats r (pre.length + t.size) ++ suf) A M0 (latTs r v ++ C) v hv1 hA h0
   have h4:=lat_forest r (pre ++ flat t pre.length) suf (A ++ (M0 ++ [v])) M2 C v hv2 (by rw [length_append,length_append,length_append,flat_len,List.length_singleton]; omega) hR
   rw [length_append,flat_len] at h4
   have e1:(pre ++ flat t pre.length) ++ (flats r (pre.length + t.size) ++ suf) = pre ++ (flats (t :: r) pre.length ++ suf):=by rw [flats]; simp
   have e2:pre ++ (flat t pre.length ++ (flats r (pre.length + t.size) ++ suf)) = pre ++ (flats (t :: r) pre.length ++ suf):=by rw [flats]; simp
   rw [e1] at h4
   rw [e2] at h3
   have e3:A ++ (M ++ C) = A ++ (M0 ++ [v]) ++ (M2 ++ C):=by rw [hM]; simp
   have e4:A ++ (M0 ++ [v]) ++ (latTs r v ++ C) = A ++ (M0 ++ v :: (latTs r v ++ C)):=by simp
   rw [sizes,← Nat.add_assoc,e3,h4,e4,h3,latTs]
   simp
end
theorem later_flat {t:Tr} (hv:Valid t):laterR (flat t 0) (flat t 0).length (List.replicate (flat t 0).length false) = latT t false:=by
 have hp:=t.size_pos
 have h:=lat_tree t [] [] [] (List.replicate (t.size - 1) false) [] false hv rfl (by simp; omega)
 simp only [List.nil_append,List.append_nil,length_nil,Nat.zero_add] at h
 rw [flat_len,show List.replicate t.size false = List.replicate (t.size - 1) false ++ [false] from by
  rw [← List.replicate_succ',show t.size - 1 + 1 = t.size by omega]]
 exact h
def refN:List Nd → List Bool → List (List UInt8) → List (List UInt8)
 | n :: e,f :: F,l => refN e F (if n.1 = 3 ∧ f = false then addV l n.2.2.2.2.2 else l)
 | _,_,l => l
mutual
theorem refN_tree:∀ (t:Tr) (o:Nat) (f:Bool) (r:List Nd) (R:List Bool) (l:List (List UInt8)),Valid t → refN (flat t o ++ r) (latT t f ++ R) l = refN r R (if f = true then l else nowT t l)
 | .mk b ks,o,f,r,R,l,⟨h1,h2,h3,h4,h5,h6⟩ => by
   have hf:=refN_forest ks o (f || (b.1 == 21 || b.1 == 24)) (aim b (roots ks o) :: r) (f :: R) l h6
   rw [flat,latT,List.append_assoc,List.append_assoc,List.singleton_append,List.singleton_append,hf,refN,aim_op,show (aim b (roots ks o)).2.2.2.2.2 = b.2.2.2.2.2 from by rw [aim_rest]]
   congr 1
   cases f with
   | true => simp
   | false =>
     rw [nowT]
     by_cases h21:b.1 = 21 ∨ b.1 = 24
     · have hb:(b.1 == 21 || b.1 == 24) = true:=by
        rcases h21 with h | h
        · rw [bt h]; rfl
        · rw [bt h,Bool.or_true]
       rw [hb,if_pos h21,if_neg (fun h => by omega)]; rfl
     · have hb:(b.1 == 21 || b.1 == 24) = false:=by
        rw [bf (fun h => h21 (Or.inl h)),bf (fun h => h21 (Or.inr h))]; rfl
       rw [hb,if_neg h21]
       by_cases h3:b.1 = 3
       · have hks:ks = []:=by
          have hr:=roots_len ks o
          have hk:kids (aim b (roots ks o)) = roots ks o:=h2 _ hr fun x hx => by have:=roots_ge ks _ x hx; omega
          have hz:kids (aim b (roots ks o)) = []:=by
           have:=aim_op b (roots ks o)
           unfold kids
           rw [this,if_neg (by omega),if_neg (by omega),if_neg (by omega),if_neg (by omega),if_neg (by omega)]
          rw [hz] at hk
          rw [← hk] at hr
          exact List.eq_nil_of_length_eq_zero hr.symm
         rw [if_pos ⟨h3,rfl⟩,if_pos h3,hks]
         simp [nowTs]
       · rw [if_neg (fun h => h3 h.1),if_neg h3]; simp
theorem refN_forest:∀ (ks:List Tr) (o:Nat) (f:Bool) (r:List Nd) (R:List Bool) (l:List (List UInt8)),Valids ks → refN (flats ks o ++ r) (latTs ks f ++ R) l = refN r R (if f = true then l else nowTs ks l)
 | [],o,f,r,R,l,_ => by rw [flats,latTs,nowTs]; simp
 | t :: ks,o,f,r,R,l,⟨h1,h2⟩ => by
   rw [flats,latTs,List.append_assoc,List.append_assoc,refN_tree t o f _ _ l h1,refN_forest ks _ f r R _ h2,nowTs]
   cases f <;> rfl
end
mutual
theorem latT_len:∀ (t:Tr) (f:Bool),(latT t f).length = t.size
 | .mk b ks,f => by rw [latT,length_append,latTs_len ks,Tr.size]; rfl
theorem latTs_len:∀ (ks:List Tr) (f:Bool),(latTs ks f).length = sizes ks
 | [],f => by rw [latTs,sizes]; rfl
 | t :: r,f => by rw [latTs,length_append,latT_len t,latTs_len r,sizes]
end
theorem has11_loop (x:List UInt8):∀ (suf pre:List (List UInt8)),pre.length + suf.length ≤ 1000000 →
  k408 T.rb (pre ++ suf) x (pre.length:Nat) = some (if x ∈ suf then .inl (pre ++ suf,true) else .inr (pre ++ suf))
 | [],pre,h => ob408 (by simp [b408,lt_self])
 | y :: suf,pre,h => ob408 (by
   simp only [length_cons] at h
   have ih:=has11_loop x suf (pre ++ [y]) (by simp; omega)
   simp only [List.append_assoc,List.singleton_append] at ih
   simp only [b408,lt_mid,inb_mid,nth_mid,cond_true,bind_some,next_mid pre y (by omega),ih]
   by_cases e:y = x
   · subst e; rw [beq_self_eq_true,cond_true]; simp
   · rw [beq_eq_false_iff_ne.2 e,cond_false]
     simp [Ne.symm e])
theorem has11_eq {l:List (List UInt8)} (x:List UInt8) (h:l.length ≤ 1000000):c116 T.rf l x = some (l,decide (x ∈ l)):=or116 (by
 have:=has11_loop x l [] (by simpa using h)
 simp only [List.nil_append,length_nil] at this
 simp only [r116]
 rw [show (0:Int) = ((0:Nat):Int) from rfl,this]
 by_cases e:x ∈ l
 · rw [if_pos e,dt e]; rfl
 · rw [if_neg e,df e]; rfl)
theorem needs11_loop:∀ (suf pre:List Nd) (S P:List Bool) (l:List (List UInt8)),P.length = pre.length → S.length = suf.length → l.length + suf.length ≤ 1000000 → pre.length + suf.length ≤ 1000000 →
  k409 T.rb (P ++ S) l (pre ++ suf) (pre.length:Nat) = some (P ++ S,refN suf S l)
 | [],pre,S,P,l,h1,h2,h3,h4 => ob409 (by
   simp only [b409,lt_end,lt_self,List.append_nil,cond_false]
   cases S <;> rfl)
 | n :: suf,pre,[],P,l,h1,h2,h3,h4 => by simp at h2
 | n :: suf,pre,f :: S,P,l,h1,h2,h3,h4 => ob409 (by
   simp only [length_cons] at h2 h3 h4
   have ih:=fun l' h' => needs11_loop suf (pre ++ [n]) S (P ++ [f]) l' (by simp [h1]) (by omega) h' (by simp; omega)
   simp only [List.append_assoc,List.singleton_append] at ih
   have hf:nth (P ++ f :: S) ((pre.length:Nat):Int).toNat = some f:=by rw [← h1]; exact nth_mid P f S
   have hi:inb ((pre.length:Nat):Int) (P ++ f :: S).length = true:=by rw [← h1]; exact inb_mid P f S
   rw [refN]
   by_cases h3:n.1 = 3
   · cases f with
     | true =>
       rw [if_neg (by simp)]
       simp only [b409,lt_mid,inb_mid,nth_mid,cond_true,bind_some,bt h3,hi,hf,Bool.not_true,cond_false,next_mid pre n (by omega)]
       exact ih l (by omega)
     | false =>
       rw [if_pos ⟨h3,rfl⟩,addV]
       by_cases hm:n.2.2.2.2.2 ∈ l
       · rw [if_pos hm]
         simp only [b409,lt_mid,inb_mid,nth_mid,cond_true,bind_some,bt h3,hi,hf,Bool.not_false,has11_eq (l:=l) _ (by omega),dt hm,Bool.not_true,cond_false,next_mid pre n (by omega)]
         exact ih l (by omega)
       · rw [if_neg hm]
         simp only [b409,lt_mid,inb_mid,nth_mid,cond_true,bind_some,bt h3,hi,hf,Bool.not_false,has11_eq (l:=l) _ (by omega),df hm,next_mid pre n (by omega),ble_most (show l.length + 1 ≤ 274877906944 by omega),Bool.and_true]
         exact ih _ (by simp; omega)
   · rw [if_neg (fun h => h3 h.1)]
     simp only [b409,lt_mid,inb_mid,nth_mid,cond_true,bind_some,bf h3,cond_false,next_mid pre n (by omega)]
     exact ih l (by omega))
theorem refNeeds_eq {e:List Nd} (h:e.length ≤ 1000000):c111 T.rf e = some (needs e):=or111 (by
 have hnl:=norm_len (e:=e)
 have hA:Ahead (norm e):=by
  by_cases hm:mayB e = true
  · exact (may_P (norm_may hm).1).ahead
  · rw [norm_not hm]; intro i n hn; simp [nth_getElem?] at hn
 have hL:c115 T.rf (norm e) = some (laterR (norm e) (norm e).length (List.replicate (norm e).length false)):=or115 (by
  have h0:=later0_loop (e:=norm e) (by omega) hA (norm e).length (List.replicate (norm e).length false) (Nat.le_refl _) (by simp)
  have hm:inb' (((norm e).length:Nat):Int) most = true:=inb'_t (by omega) (by rw [show most = 274877906944 from rfl]; omega)
  have hm2:inb' (((norm e).length:Nat):Int) (norm e).length = true:=inb'_t (by omega) (by omega)
  simp only [r115,hm,hm2,cond_true,wr_pred (show (norm e).length < 4611686018427387904 by omega),h0,bind_some])
 by_cases hm:mayB e = true
 · obtain ⟨t,ht,hv,hs,_,_,_,hs5⟩:=may_tree hm
   have hn:=norm_flat hm ht
   have hl0:=later_flat hv
   have h0:=needs11_loop (norm e) [] (latT t false) [] [] rfl (by rw [latT_len,hn,flat_len]) (by simp; omega) (by simp; omega)
   rw [List.nil_append,List.nil_append,length_nil,show ((0:Nat):Int) = (0:Int) from rfl] at h0
   have hr:=refN_tree t 0 false [] [] [] hv
   rw [List.append_nil,List.append_nil,← hn] at hr
   rw [hn] at hL
   rw [hl0,← hn] at hL
   simp only [r111,Norm_eq h,bind_some,hL,h0,hr,needs_of hm ht]
   rfl
 · have h0:=needs11_loop [] [] [] [] [] rfl rfl (by simp) (by simp)
   rw [List.nil_append,List.nil_append,length_nil,show ((0:Nat):Int) = (0:Int) from rfl] at h0
   rw [norm_not hm] at hL
   simp only [r111,Norm_eq h,bind_some,norm_not hm,hL]
   rw [show laterR [] ([]:List Nd).length (List.replicate ([]:List Nd).length false) = [] from rfl,h0,needs_not hm]; rfl)
end Go.Proofs.YtadonikkibahnaaGreat.R
