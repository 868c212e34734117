import Derived.Test.YtadonikkibahnaaGreatNorI
open Option (bind_some)
namespace Go.Proofs.YtadonikkibahnaaGreat.R
open Go Go.Bm Go.Proofs
set_option linter.unusedVariables false
set_option linter.unusedSimpArgs false
set_option maxRecDepth 4000
def kidK (op:Int):Int :=
 if op = 3 ∨ op = 1 ∨ op = 2 then 0 else if op = 21 then 1 else if op = 19 then 2 else if op = 4 ∨ op = 5 then 1 else if 6 ≤ op ∧ op ≤ 18 then 2 else if op = 26 then 3 else -1
theorem refOperK_eq (op:Int):c131 T.rf op = some (if op = 4 ∨ op = 5 then 1 else if 6 ≤ op ∧ op ≤ 18 then 2 else if op = 26 then 3 else -1):=or131 (by
 simp only [r131]
 by_cases h4:op = 4
 · subst h4; rfl
 by_cases h5:op = 5
 · subst h5; rfl
 rw [bf h4,cond_false,bf h5,cond_false,if_neg (by omega)]
 by_cases h26:op = 26
 · subst h26; rfl
 rw [bf h26,cond_false,if_neg h26]
 by_cases h6:6 ≤ op
 · rw [dt h6,cond_true]
   by_cases h18:op ≤ 18
   · rw [dt h18,cond_true,if_pos ⟨h6,h18⟩]
   · rw [df h18,cond_false,if_neg (by omega)]
 · rw [df h6,cond_false,if_neg (by omega)])
theorem refKidK_eq (op:Int):c130 T.rf op = some (kidK op):=or130 (by
 simp only [r130,refOperK_eq,bind_some]
 unfold kidK
 by_cases h3:op = 3
 · subst h3; rfl
 by_cases h1:op = 1
 · subst h1; rfl
 by_cases h2:op = 2
 · subst h2; rfl
 by_cases h21:op = 21
 · subst h21; rfl
 by_cases h19:op = 19
 · subst h19; rfl
 simp only [bf h3,bf h1,bf h2,bf h21,bf h19,cond_false,if_neg h21,if_neg h19,if_neg (show ¬ (op = 3 ∨ op = 1 ∨ op = 2) by omega)])
theorem args_no {b:Nd} (h27:b.1 ≠ 27) (h28:b.1 ≠ 28):∀ (ts:List Tr) (m a:Nat),argsT b m ts a = true → ∀ t ∈ ts,t.op ≠ 28
 | [],_,_,_,t,ht => by cases ht
 | u :: r,m,a,h,t,ht => by
   rw [argsT,Bool.and_eq_true] at h
   rcases List.mem_cons.1 ht with rfl | ht
   · have h1:=h.1
     unfold argT at h1
     rw [df h27,df h28,Bool.false_and,Bool.or_false] at h1
     intro e
     rw [dt e] at h1
     cases h1
   · exact args_no h27 h28 r m (a + 1) h.2 t ht
mutual
theorem no28:∀ (t:Tr) (o:Nat),Valid t → t.op ≠ 28 → (∀ n ∈ flat t o,n.1 ≠ 27) → ∀ n ∈ flat t o,n.1 ≠ 28
 | .mk b ks,o,hv,hop,hn,n,hm => by
   rw [Valid] at hv
   rw [flat] at hn hm
   have hb:b.1 ≠ 27:=by have:=hn _ (List.mem_append_right _ (List.mem_singleton.2 rfl)); rw [aim_op] at this; exact this
   rcases List.mem_append.1 hm with hm | hm
   · exact nos28 ks o hv.2.2.2.2.2 (args_no hb hop ks ks.length 0 hv.2.2.2.2.1) (fun x hx => hn x (List.mem_append_left _ hx)) n hm
   · rw [List.mem_singleton] at hm
     rw [hm,aim_op]; exact hop
theorem nos28:∀ (ts:List Tr) (o:Nat),Valids ts → (∀ t ∈ ts,t.op ≠ 28) → (∀ n ∈ flats ts o,n.1 ≠ 27) → ∀ n ∈ flats ts o,n.1 ≠ 28
 | [],o,_,_,_,n,hm => by rw [flats] at hm; cases hm
 | t :: r,o,hv,hop,hn,n,hm => by
   rw [Valids] at hv
   rw [flats] at hn hm
   rcases List.mem_append.1 hm with hm | hm
   · exact no28 t o hv.1 (hop t (List.mem_cons_self ..)) (fun x hx => hn x (List.mem_append_left _ hx)) n hm
   · exact nos28 r _ hv.2 (fun u hu => hop u (List.mem_cons_of_mem _ hu)) (fun x hx => hn x (List.mem_append_right _ hx)) n hm
end
def okK (x:Op5):Prop:=0 ≤ kidK x.1 ∧ (x.2.1 ≥ 0 ↔ kidK x.1 > 0) ∧ (x.2.2.1 ≥ 0 ↔ kidK x.1 > 1) ∧ (x.2.2.2.1 ≥ 0 ↔ kidK x.1 > 2)
theorem opN_ok {f:Int → Int} {n:Nd} (hn:1 ≤ n.1 ∧ n.1 ≤ 28) (h27:n.1 ≠ 27) (h28:n.1 ≠ 28) (hp:pastN n = false) (hf:∀ k ∈ kids n,0 ≤ f k):okK (opN f n) ∧ (opN f n).1 = n.1:=by
 obtain ⟨op,a,b,c,k,nm⟩:=n
 simp only at hn h27 h28
 unfold pastN at hp
 rw [decide_eq_false_iff_not] at hp
 simp only at hp
 have hop:∀ (l:List Int) (j:Nat) (y:Op5),(fillO f l j y).1 = y.1:=by
  intro l
  induction l with
  | nil => intro j y; rfl
  | cons k r ih =>
    intro j y
    rw [fillO,ih]
    unfold setOp
    repeat' split
    all_goals rfl
 refine ⟨?_,hop _ _ _⟩
 unfold okK
 have h1:(opN f (op,a,b,c,k,nm)).1 = op:=hop _ _ _
 rw [h1]
 by_cases h26:op = 26
 · subst h26
   have hk:kids (26,a,b,c,k,nm) = [a,b,c]:=by simp [kids]
   rw [hk] at hf
   have ha:=hf a (by simp); have hb:=hf b (by simp); have hc:=hf c (by simp)
   have e:opN f (26,a,b,c,k,nm) = (26,f a,f b,f c,k):=by unfold opN; rw [hk]; rfl
   rw [e,show kidK 26 = 3 from rfl]
   simp only
   omega
 by_cases h2:6 ≤ op ∧ op ≤ 19
 · have hk:kids (op,a,b,c,k,nm) = [a,b]:=by
    unfold kids
    simp only
    rw [if_neg h26,if_neg (by omega),if_neg (by omega),if_pos (by omega)]
   rw [hk] at hf
   have ha:=hf a (by simp); have hb:=hf b (by simp)
   have e:opN f (op,a,b,c,k,nm) = (op,f a,f b,-1,k):=by unfold opN; rw [hk]; rfl
   have hkk:kidK op = 2:=by unfold kidK; repeat' split
                            all_goals omega
   rw [e,hkk]
   simp only
   omega
 by_cases h3:op = 4 ∨ op = 5 ∨ op = 21
 · have hk:kids (op,a,b,c,k,nm) = [a]:=by
    unfold kids
    simp only
    rw [if_neg h26,if_neg (by omega),if_neg (by omega),if_neg (by omega),if_pos (by omega)]
   rw [hk] at hf
   have ha:=hf a (by simp)
   have e:opN f (op,a,b,c,k,nm) = (op,f a,-1,-1,k):=by unfold opN; rw [hk]; rfl
   have hkk:kidK op = 1:=by unfold kidK; repeat' split
                            all_goals omega
   rw [e,hkk]
   simp only
   omega
 · have hk:kids (op,a,b,c,k,nm) = []:=by
    unfold kids
    simp only
    rw [if_neg h26,if_neg (by omega),if_neg (by omega),if_neg (by omega),if_neg (by omega)]
   have e:opN f (op,a,b,c,k,nm) = (op,-1,-1,-1,k):=by unfold opN; rw [hk]; rfl
   have hkk:kidK op = 0:=by unfold kidK; rw [if_pos (by omega)]
   rw [e,hkk]
   simp only
   omega
theorem past_norm {l:List Sm} (hp:pastS l = false) {s:Sm} (hs:s ∈ l) {n:Nd} (hn:n ∈ xp s):pastN n = false:=by
 obtain ⟨m,hm,hb⟩:=norm_blank hn
 obtain ⟨h1,_⟩:=blank_op hb
 have h2:pastN m = false:=by
  cases h:pastN m
  · rfl
  · have:pastS l = true:=List.any_eq_true.2 ⟨s,hs,List.any_eq_true.2 ⟨m,hm,h⟩⟩
    rw [hp] at this; cases this
 unfold pastN at h2 ⊢
 rw [h1]; exact h2
theorem xp_28 {l:List Sm} (F:Fine l) {s:Sm} (hs:s ∈ l) {n:Nd} (hn:n ∈ xp s):n.1 ≠ 28 ∧ 1 ≤ n.1 ∧ n.1 ≤ 28:=by
 have hne:s.2.2 ≠ []:=fun h => by rw [xp_nil h] at hn; cases hn
 obtain ⟨hm,_⟩:=F.ok s hs hne
 obtain ⟨t,ht,hv,_,hop,_⟩:=may_tree hm
 have hf:xp s = flat t 0:=norm_flat hm ht
 refine ⟨no28 t 0 hv hop (fun x hx => (xp_ok F hs (by rw [hf]; exact hx)).1) n (by rw [← hf]; exact hn),?_⟩
 obtain ⟨j,hj,hje⟩:=List.getElem_of_mem hn
 have:=(may_P (norm_may hm).1).node j n (show nth (xp s) j = some n by rw [nth_t hj,hje])
 unfold nodeB at this
 exact ⟨(of_decide_eq_true this).1,(of_decide_eq_true this).2.1⟩
theorem opsX_mem {f:Int → Int} {x:List Nd} {y:Op5} (h:y ∈ opsX f x):∃ n ∈ x,n.1 ≠ 3 ∧ y = opN f n:=by
 rw [opsX,List.mem_map] at h
 obtain ⟨n,hn,rfl⟩:=h
 rw [List.mem_filter] at hn
 exact ⟨n,hn.1,of_decide_eq_true hn.2,rfl⟩
theorem opsF_mem {l:List Sm} (F:Fine l) (hp:pastS l = false) {M:List (List UInt8 × Int)} (hM:Gets M (nmS l)):∀ (suf pre:List Sm),l = pre ++ suf → ∀ y ∈ opsF l suf pre.length,okK y ∧ y.1 ≠ 3
 | [],pre,he,y,hy => by rw [opsF] at hy; cases hy
 | s :: suf,pre,he,y,hy => by
   rw [opsF] at hy
   have hi:nth l pre.length = some s:=by
    have:=nth_mid pre s suf
    rw [Int.toNat_natCast,← he] at this; exact this
   have hs:=(nth_mem hi).1
   rcases List.mem_append.1 hy with hy | hy
   · obtain ⟨n,hn,h3,rfl⟩:=opsX_mem hy
     obtain ⟨h28,h1⟩:=xp_28 F hs hn
     obtain ⟨j,hj,hje⟩:=List.getElem_of_mem hn
     have hkin:=kids_in F hi (show nth (xp s) j = some n by rw [nth_t hj,hje])
     obtain ⟨g1,g2⟩:=opN_ok (f:=ndV l (xp s) pre.length) h1 (xp_ok F hs hn).1 h28 (past_norm hp hs hn) (fun k hk => (ndV_ok F hM hi (hkin k hk)).1)
     exact ⟨g1,by rw [g2]; exact h3⟩
   · have hl:(pre ++ [s]).length = pre.length + 1:=by simp
     exact opsF_mem F hp hM suf (pre ++ [s]) (by simp [he]) y (by rw [hl]; exact hy)
theorem kind_loop (n:Nt5) (hl:n.1.length ≤ 1000000) (hok:∀ (i:Nat) (x:Op5),nth n.1 i = some x → okK x ∧ (x.1 = 3 ↔ i < n.2.2.length) ∧ (i < n.2.2.length → x.2.2.2.2 = (i:Int))):∀ (suf pre:List Op5),n.1 = pre ++ suf →
  k494 T.rb n (pre.length:Nat) = some (.inr n)
 | [],pre,he => ob494 (by
   rw [List.append_nil] at he
   simp only [b494,he,lt_self,cond_false])
 | x :: suf,pre,he => ob494 (by
   have hll:n.1.length = pre.length + (suf.length + 1):=by rw [he]; simp
   have hlt:decide (((pre.length:Nat):Int) < ((n.1.length:Nat):Int)) = true:=dt (by omega)
   have hin:inb ((pre.length:Nat):Int) n.1.length = true:=inb_t (by omega) (by omega)
   have hnt:nth n.1 ((pre.length:Nat):Int).toNat = some x:=by rw [he]; exact nth_mid pre x suf
   have hi:nth n.1 pre.length = some x:=by have h:=hnt; rw [Int.toNat_natCast] at h; exact h
   have hnx:IntKind.i64.wrap (((pre.length:Nat):Int) + 1) = (((pre ++ [x]).length:Nat):Int):=next_mid pre x (by omega)
   have ih:=kind_loop n hl hok suf (pre ++ [x]) (by simp [he])
   obtain ⟨⟨k0,k1,k2,k3⟩,k4,k5⟩:=hok _ _ hi
   have e1:decide (x.2.1 ≥ 0) = decide (kidK x.1 > 0):=by rw [Bool.eq_iff_iff,decide_eq_true_eq,decide_eq_true_eq]; exact k1
   have e2:decide (x.2.2.1 ≥ 0) = decide (kidK x.1 > 1):=by rw [Bool.eq_iff_iff,decide_eq_true_eq,decide_eq_true_eq]; exact k2
   have e3:decide (x.2.2.2.1 ≥ 0) = decide (kidK x.1 > 2):=by rw [Bool.eq_iff_iff,decide_eq_true_eq,decide_eq_true_eq]; exact k3
   have e4:(x.1 == 3) = decide (((pre.length:Nat):Int) < ((n.2.2.length:Nat):Int)):=by
    rw [Bool.eq_iff_iff,decide_eq_true_eq,beq_iff_eq,k4]; omega
   simp only [b494,hlt,hin,hnt,cond_true,bind_some,refKidK_eq,df (show ¬ kidK x.1 < 0 by omega),cond_false,e1,e2,e3,e4,beq_self_eq_true,Bool.not_true,hnx]
   by_cases hq:pre.length < n.2.2.length
   · rw [dt (show ((pre.length:Nat):Int) < ((n.2.2.length:Nat):Int) by omega),cond_true,nbt (k5 hq),cond_false]; exact ih
   · rw [df (show ¬ ((pre.length:Nat):Int) < ((n.2.2.length:Nat):Int) by omega),cond_false]; exact ih)
theorem NormKinds_eq (l:List Sm):c138 T.rf l = some true:=or138 (by
 simp only [r138,liveT,bind_some,SmallS_eq]
 cases hs:smallS l
 · rfl
 obtain ⟨h1,h2⟩:=small_S hs
 obtain ⟨l1,l2,l3⟩:=netS_len h1
 have hs':∀ s ∈ l,s.2.2.length ≤ 1000000:=fun s hs => by have:=h2 s hs; omega
 rw [Bool.not_true,cond_false,Make_eq (by omega) hs',bind_some]
 by_cases h0:(netS l).2 = 0
 case neg => rw [nbf h0,cond_true]
 obtain ⟨g1,g2,g3⟩:=netS_ok h0
 have F:=fine_of (by omega) hs' g1
 obtain ⟨M,_,hM⟩:=mk0_loop l (by omega) [] l [] [] rfl F.nod gets_nil
 rw [nbt h0,cond_false,g3]
 rw [g3] at l1 l2 l3
 simp only at l1 l2 l3
 have hlt:¬ ((((opsI (nIn l) ++ opsF l l 0).length:Nat):Int) < (((inpS l).length:Nat):Int)):=by
  rw [List.length_append,opsI_len,inpS_len]; omega
 have hk:=kind_loop (opsI (nIn l) ++ opsF l l 0,rtsF l l 0,inpS l) (by show (opsI (nIn l) ++ opsF l l 0).length ≤ 1000000; omega) (fun i x hx => by
  change nth (opsI (nIn l) ++ opsF l l 0) i = some x at hx
  show okK x ∧ (x.1 = 3 ↔ i < (inpS l).length) ∧ (i < (inpS l).length → x.2.2.2.2 = (i:Int))
  rw [inpS_len]
  rw [nth_getElem?,List.getElem?_append,opsI_len] at hx
  by_cases hi:i < nIn l
  · rw [if_pos hi] at hx
    have hx2:x = (3,-1,-1,-1,((i:Nat):Int)):=by
     rw [opsI,List.getElem?_map,List.getElem?_range hi] at hx
     exact (Option.some.inj hx).symm
    subst hx2
    refine ⟨?_,⟨fun _ => hi,fun _ => rfl⟩,fun _ => rfl⟩
    unfold okK
    rw [show kidK 3 = 0 from rfl]
    simp only
    omega
  · rw [if_neg hi] at hx
    obtain ⟨k1,k2⟩:=opsF_mem F g2 hM l [] rfl x (List.mem_of_getElem? hx)
    exact ⟨k1,⟨fun h => absurd h k2,fun h => absurd h hi⟩,fun h => absurd h hi⟩) (opsI (nIn l) ++ opsF l l 0) [] rfl
 rw [List.length_nil,show ((0:Nat):Int) = (0:Int) from rfl] at hk
 rw [df hlt,cond_false,hk,bind_some])
theorem lawNormKinds:LawOk T 138:=fun d _ => ⟨true,NormKinds_eq d,rfl,rfl,rfl⟩
end Go.Proofs.YtadonikkibahnaaGreat.R
