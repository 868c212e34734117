import Derived.Test.YtadonikkibahnaaGreatCauC
open Option (bind_some)
open List (length_append length_cons length_nil)
namespace Go.Proofs.YtadonikkibahnaaGreat.R
open Go Go.Bm Go.Proofs
set_option linter.unusedVariables false
set_option linter.unusedSimpArgs false
set_option maxRecDepth 4000
theorem outI_self:∀ a:Option Nat,outI a a = true
 | none => rfl
 | some j => Nat.beq_refl j
theorem get_set {V:Type} (d:V) (x:List UInt8) (v:V) (y:List UInt8):∀ m:List (List UInt8 × V),assocGet (CT.eqK .str) d (assocSet (CT.eqK .str) m x v) y = if y = x then v else assocGet (CT.eqK .str) d m y
 | [] => by
   simp only [assocSet,assocGet,assoc]
   by_cases e:y = x
   · rw [if_pos e,show CT.eqK .str y x = true from beq_iff_eq.2 e]; rfl
   · rw [if_neg e,show CT.eqK .str y x = false from beq_eq_false_iff_ne.2 e]; rfl
 | p :: r => by
   have ih:=get_set d x v y r
   simp only [assocSet]
   by_cases e:x = p.1
   · rw [show CT.eqK .str x p.1 = true from beq_iff_eq.2 e,cond_true]
     simp only [assocGet,assoc]
     by_cases e2:y = x
     · rw [if_pos e2,show CT.eqK .str y x = true from beq_iff_eq.2 e2]; rfl
     · rw [if_neg e2,show CT.eqK .str y x = false from beq_eq_false_iff_ne.2 e2,show CT.eqK .str y p.1 = false from beq_eq_false_iff_ne.2 (e ▸ e2)]; rfl
   · rw [show CT.eqK .str x p.1 = false from beq_eq_false_iff_ne.2 e,cond_false]
     simp only [assocGet,assoc] at ih ⊢
     by_cases e2:y = p.1
     · rw [show CT.eqK .str y p.1 = true from beq_iff_eq.2 e2,if_neg (fun e3:y = x => e (e3.symm.trans e2))]
       rfl
     · rw [show CT.eqK .str y p.1 = false from beq_eq_false_iff_ne.2 e2,cond_false,cond_false]; exact ih
theorem filter_or {p q:Nat → Bool}:∀ l:List Nat,(∀ j ∈ l,p j = true → q j = false) → (l.filter fun j => p j || q j).length = (l.filter p).length + (l.filter q).length
 | [],_ => rfl
 | j :: r,h => by
   have ih:=filter_or r fun k hk => h k (List.mem_cons_of_mem _ hk)
   have hj:=h j List.mem_cons_self
   cases hp:p j <;> cases hq:q j
   · rw [List.filter_cons_of_neg (by simp [hp,hq]),List.filter_cons_of_neg (by simp [hp]),List.filter_cons_of_neg (by simp [hq])]; exact ih
   · rw [List.filter_cons_of_pos (by simp [hp,hq]),List.filter_cons_of_neg (by simp [hp]),List.filter_cons_of_pos (by simp [hq]),length_cons,length_cons]; omega
   · rw [List.filter_cons_of_pos (by simp [hp,hq]),List.filter_cons_of_pos (by simp [hp]),List.filter_cons_of_neg (by simp [hq]),length_cons,length_cons]; omega
   · rw [hj hp] at hq; exact absurd hq (by decide)
theorem named_loop {n p:Nat} (hp:p < n) (w:Nat → Int) (g:Nat → List Int) (hg:∀ k,(g k).length ≤ 1000000):∀ (suf pre:List Nat) (c:Nat),(pre ++ suf).Nodup → (∀ k ∈ suf,k < n) → c + suf.length ≤ 1000000 → pre.length + suf.length ≤ 1000000 →
  k204 T.rb (rowF n fun j => if j = p then (c:Int) else w j) (rowF n fun k => g k ++ if k ∈ pre then [(p:Int)] else []) (p:Nat) (ints pre ++ ints suf) ((ints pre ++ ints suf).length:Nat) ((ints pre).length:Nat)
   = some (rowF n (fun j => if j = p then ((c + suf.length:Nat):Int) else w j),rowF n fun k => g k ++ if k ∈ pre ++ suf then [(p:Int)] else [])
 | [],pre,c,hnd,hs,hc,hl => ob204 (by
   rw [show ints [] = [] from rfl,List.append_nil pre]
   simp only [b204,lt_end,lt_self,List.append_nil,cond_false,length_nil,Nat.add_zero])
 | k :: suf,pre,c,hnd,hs,hc,hl => ob204 (by
   have hk:=hs k List.mem_cons_self
   simp only [length_cons] at hc hl
   have hkp:k ∉ pre:=fun x => by
    rw [List.nodup_append] at hnd
    exact hnd.2.2 k x k List.mem_cons_self rfl
   have e1:ints (pre ++ [k]) ++ ints suf = ints pre ++ (k:Int) :: ints suf:=by rw [ints_app]; simp [ints]
   have e2:pre ++ [k] ++ suf = pre ++ k :: suf:=by simp
   have e3:ints pre ++ [(k:Int)] = ints (pre ++ [k]):=by rw [ints_app]; rfl
   have ih:=named_loop hp w g hg suf (pre ++ [k]) (c + 1) (by rw [e2]; exact hnd) (fun j hj => hs j (List.mem_cons_of_mem _ hj)) (by omega) (by simp; omega)
   rw [e1,e2,show c + 1 + suf.length = c + (suf.length + 1) by omega] at ih
   have hpl:(ints pre).length < 4611686018427387904:=by rw [ints_len]; omega
   have hgk:nth (rowF n fun k => g k ++ if k ∈ pre then [(p:Int)] else []) k = some (g k):=by
    rw [rowF_get _ hk,if_neg hkp,List.append_nil]
   have hgp:nth (rowF n fun j => if j = p then (c:Int) else w j) p = some (c:Int):=by
    rw [rowF_get _ hp,if_pos rfl]
   have hs1:setNth (rowF n fun j => if j = p then (c:Int) else w j) p (IntKind.i64.wrap ((c:Int) + 1)) = rowF n fun j => if j = p then ((c + 1:Nat):Int) else w j:=by
    rw [rowF_set]
    refine rowF_congr fun j _ => ?_
    by_cases e:j = p
    · rw [if_pos e,if_pos e,wr_succ (by omega)]
    · rw [if_neg e,if_neg e,if_neg e]
   have hs2:setNth (rowF n fun k => g k ++ if k ∈ pre then [(p:Int)] else []) k (g k ++ [(p:Int)]) = rowF n fun j => g j ++ if j ∈ pre ++ [k] then [(p:Int)] else []:=by
    rw [rowF_set]
    refine rowF_congr fun j _ => ?_
    by_cases e:j = k
    · subst e; rw [if_pos rfl,if_pos (by simp)]
    · rw [if_neg e]; simp [e]
   rw [ints_cons,length_cons]
   simp only [b204,lt_mid,inb_mid,nth_mid,cond_true,bind_some]
   simp only [cond_true,bind_some,inb_nat,rowF_len,dt hk,dt hp,Int.toNat_natCast,hgk,hgp,ble_most (show (g k).length + 1 ≤ 274877906944 by have:=hg k; omega),Bool.and_true,blt_t hk,blt_t hp,Nat.beq_refl,Bool.true_and,hs1,hs2,next_mid (ints pre) (k:Int) hpl,e3]
   exact ih)
def cntF (n:Nat) (p:Nat → Bool):Nat:=((List.range n).filter p).length
theorem cntF_le (n:Nat) (p:Nat → Bool):cntF n p ≤ n:=by have:=List.length_filter_le p (List.range n); rw [List.length_range] at this; exact this
theorem names_loop {n p:Nat} (hp:p < n) (hn:n ≤ 1000) (nm:Nat → List UInt8) (N:List (List UInt8 × List Int)) (hN:∀ x,assocGet (CT.eqK .str) [] N x = ints ((List.range n).filter fun j => decide (nm j = x))) (w:Nat → Int) (g:Nat → List Int) (hg:∀ k,(g k).length ≤ 10000) :
  ∀ (suf pre:List (List UInt8)),(pre ++ suf).Nodup → pre.length + suf.length ≤ 1000000 →
  k203 T.rb N (rowF n fun j => if j = p then ((cntF n (fun j => decide (nm j ∈ pre)):Nat):Int) else w j) (rowF n fun k => g k ++ if nm k ∈ pre then [(p:Int)] else []) (p:Nat) (pre ++ suf) ((pre ++ suf).length:Nat) (pre.length:Nat)
   = some (N,rowF n (fun j => if j = p then ((cntF n (fun j => decide (nm j ∈ pre ++ suf)):Nat):Int) else w j),rowF n fun k => g k ++ if nm k ∈ pre ++ suf then [(p:Int)] else [])
 | [],pre,hnd,hl => ob203 (by simp only [b203,lt_end,lt_self,List.append_nil,cond_false])
 | x :: suf,pre,hnd,hl => ob203 (by
   simp only [length_cons] at hl
   have hxp:x ∉ pre:=fun h => by
    rw [List.nodup_append] at hnd
    exact hnd.2.2 x h x List.mem_cons_self rfl
   have e2:pre ++ [x] ++ suf = pre ++ x :: suf:=by simp
   have ih:=names_loop hp hn nm N hN w g hg suf (pre ++ [x]) (by rw [e2]; exact hnd) (by simp; omega)
   rw [e2] at ih
   have hc1:=cntF_le n fun j => decide (nm j ∈ pre)
   have hc2:=cntF_le n fun j => decide (nm j = x)
   have hl6:=named_loop hp w (fun k => g k ++ if nm k ∈ pre then [(p:Int)] else []) (fun k => by have:=hg k; split <;> simp <;> omega) ((List.range n).filter fun j => decide (nm j = x)) [] (cntF n fun j => decide (nm j ∈ pre)) (by rw [List.nil_append]; exact List.Nodup.sublist List.filter_sublist List.nodup_range) (fun k hk => List.mem_range.1 (List.mem_filter.1 hk).1) (by rw [cntF] at hc2; omega) (by rw [cntF] at hc2; simp only [length_nil]; omega)
   rw [show ints [] = [] from rfl,List.nil_append,List.nil_append,length_nil,show ((0:Nat):Int) = (0:Int) from rfl] at hl6
   have hr1:(rowF n fun k => (g k ++ if nm k ∈ pre then [(p:Int)] else []) ++ if k ∈ ([]:List Nat) then [(p:Int)] else []) = rowF n fun k => g k ++ if nm k ∈ pre then [(p:Int)] else []:=rowF_congr fun k _ => by simp
   have hr2:(rowF n fun k => (g k ++ if nm k ∈ pre then [(p:Int)] else []) ++ if k ∈ (List.range n).filter (fun j => decide (nm j = x)) then [(p:Int)] else []) = rowF n fun k => g k ++ if nm k ∈ pre ++ [x] then [(p:Int)] else []:=rowF_congr fun k hk => by
    have hm:k ∈ (List.range n).filter (fun j => decide (nm j = x)) ↔ nm k = x:=by simp [List.mem_filter,hk]
    by_cases h1:nm k = x
    · rw [if_pos (hm.2 h1),if_neg (h1 ▸ hxp),if_pos (by simp [h1])]; simp
    · rw [if_neg (fun a => h1 (hm.1 a))]
      by_cases h2:nm k ∈ pre
      · rw [if_pos h2,if_pos (by simp [h2])]; simp
      · rw [if_neg h2,if_neg (by simp [h1,h2])]; simp
   have hr3:cntF n (fun j => decide (nm j ∈ pre)) + ((List.range n).filter fun j => decide (nm j = x)).length = cntF n (fun j => decide (nm j ∈ pre ++ [x])):=by
    rw [cntF,cntF,← filter_or _ (fun j _ h => by
     rw [decide_eq_true_iff] at h
     exact decide_eq_false (fun e => hxp (e ▸ h)))]
    congr 1
    refine List.filter_congr fun j _ => ?_
    by_cases h1:nm j ∈ pre <;> by_cases h2:nm j = x <;> simp [h1,h2]
   rw [hr1,hr2,hr3] at hl6
   simp only [b203,lt_mid,inb_mid,nth_mid,cond_true,bind_some,hN,hl6,next_mid pre x (by omega)]
   exact ih)
abbrev Eqn:Type:=List UInt8 × List Nd
noncomputable def eqAt (l:List Eqn) (i:Nat):Eqn:=l.getD i ([],[])
noncomputable def nmL (l:List Eqn) (i:Nat):List UInt8:=(eqAt l i).1
noncomputable def nsL (l:List Eqn) (i:Nat):List (List UInt8):=needs (eqAt l i).2
noncomputable def DL (l:List Eqn) (i j:Nat):Bool:=decide (nmL l j ∈ nsL l i)
theorem eqAt_mid (pre:List Eqn) (q:Eqn) (suf:List Eqn):eqAt (pre ++ q :: suf) pre.length = q:=by
 rw [eqAt,List.getD_eq_getElem?_getD,List.getElem?_append_right (Nat.le_refl _)]; simp
theorem first_loop (l:List Eqn) (hl:l.length ≤ 1000):∀ (suf pre:List Eqn) (N:List (List UInt8 × List Int)),l = pre ++ suf →
  (∀ x,assocGet (CT.eqK .str) [] N x = ints ((List.range pre.length).filter fun j => decide (nmL l j = x))) →
  ∃ N',k201 T.rb N (pre ++ suf) ((pre ++ suf).length:Nat) (pre.length:Nat) = some N' ∧ ∀ x,assocGet (CT.eqK .str) [] N' x = ints ((List.range l.length).filter fun j => decide (nmL l j = x))
 | [],pre,N,he,hN => by
   rw [List.append_nil] at he
   subst he
   exact ⟨N,ob201 (by simp only [b201,lt_end,lt_self,List.append_nil,cond_false]),hN⟩
 | q :: suf,pre,N,he,hN => by
   have hll:l.length = pre.length + (suf.length + 1):=by rw [he]; simp
   have hnm:nmL l pre.length = q.1:=by rw [nmL,he,eqAt_mid]
   obtain ⟨N',hrun,hN'⟩:=first_loop l hl suf (pre ++ [q]) (assocSet (CT.eqK .str) N q.1 (assocGet (CT.eqK .str) [] N q.1 ++ [((pre.length:Nat):Int)])) (by simp [he]) (fun x => by
    rw [get_set,hN,hN,length_append,List.length_singleton,List.range_succ,List.filter_append]
    by_cases e:x = q.1
    · subst e
      rw [if_pos rfl,List.filter_cons_of_pos (by simp [hnm]),ints_app]; rfl
    · rw [if_neg e,List.filter_cons_of_neg (by simp [hnm,Ne.symm e]),List.filter_nil,List.append_nil])
   have hlen:(assocGet (CT.eqK .str) [] N q.1).length + 1 ≤ 274877906944:=by
    rw [hN,ints_len]
    have:=List.length_filter_le (fun j => decide (nmL l j = q.1)) (List.range pre.length)
    rw [List.length_range] at this; omega
   simp only [List.append_assoc,List.singleton_append] at hrun
   refine ⟨N',ob201 ?_,hN'⟩
   simp only [b201,lt_mid,inb_mid,nth_mid,cond_true,bind_some,ble_most hlen,Bool.and_true,outI_self,next_mid pre q (by omega)]
   exact hrun
theorem waits_none (l:List Eqn) (i n:Nat):waitsN (DL l) n [] i = cntF n fun j => decide (nmL l j ∈ nsL l i):=by
 rw [waitsN,cntF]
 congr 1
 refine List.filter_congr fun j _ => ?_
 simp [DL]
theorem second_loop (l:List Eqn) (hl:l.length ≤ 1000) (hq:∀ q ∈ l,q.2.length ≤ 1000000) (N:List (List UInt8 × List Int)) (hN:∀ x,assocGet (CT.eqK .str) [] N x = ints ((List.range l.length).filter fun j => decide (nmL l j = x))) :
  ∀ (suf pre:List Eqn) (h:List Int),l = pre ++ suf → HeapOf h (fun j => j < pre.length ∧ waitsN (DL l) l.length [] j = 0) →
  ∃ h',k202 T.rb N (rowF l.length fun j => if j < pre.length then ((waitsN (DL l) l.length [] j:Nat):Int) else 0) (rowF l.length fun k => ints ((List.range pre.length).filter fun i => DL l i k)) h (pre ++ suf) ((pre ++ suf).length:Nat) (pre.length:Nat)
    = some (N,rowF l.length (fun j => ((waitsN (DL l) l.length [] j:Nat):Int)),rowF l.length (fun k => ints ((List.range l.length).filter fun i => DL l i k)),h')
   ∧ HeapOf h' (fun j => j < l.length ∧ waitsN (DL l) l.length [] j = 0)
 | [],pre,h,he,H => by
   rw [List.append_nil] at he
   subst he
   refine ⟨h,ob202 ?_,H⟩
   simp only [b202,lt_end,lt_self,List.append_nil,cond_false]
   rw [show (rowF l.length fun j => if j < l.length then ((waitsN (DL l) l.length [] j:Nat):Int) else 0) = rowF l.length (fun j => ((waitsN (DL l) l.length [] j:Nat):Int)) from rowF_congr fun j hj => if_pos hj]
 | q :: suf,pre,h,he,H => by
   have hll:l.length = pre.length + (suf.length + 1):=by rw [he]; simp
   have hqa:eqAt l pre.length = q:=by rw [he,eqAt_mid]
   have hqm:q ∈ l:=by rw [he]; simp
   have hp:pre.length < l.length:=by omega
   have hnd:=needs_nodup q.2
   have hnl:=needs_len q.2
   have hrun4:=names_loop hp hl (nmL l) N hN (fun j => if j < pre.length then ((waitsN (DL l) l.length [] j:Nat):Int) else 0) (fun k => ints ((List.range pre.length).filter fun i => DL l i k)) (fun k => by
    rw [ints_len]
    have:=List.length_filter_le (fun i => DL l i k) (List.range pre.length)
    rw [List.length_range] at this; omega) (needs q.2) [] (by simpa using hnd) (by simp; omega)
   rw [List.nil_append,length_nil,show ((0:Nat):Int) = (0:Int) from rfl] at hrun4
   have a1:(rowF l.length fun j => if j = pre.length then ((cntF l.length (fun j => decide (nmL l j ∈ ([]:List (List UInt8)))):Nat):Int) else if j < pre.length then ((waitsN (DL l) l.length [] j:Nat):Int) else 0) = rowF l.length fun j => if j < pre.length then ((waitsN (DL l) l.length [] j:Nat):Int) else 0:=rowF_congr fun j _ => by
    by_cases e:j = pre.length
    · subst e; rw [if_pos rfl,if_neg (by omega)]; simp [cntF]
    · rw [if_neg e]
   have a2:(rowF l.length fun k => ints ((List.range pre.length).filter fun i => DL l i k) ++ if nmL l k ∈ ([]:List (List UInt8)) then [((pre.length:Nat):Int)] else []) = rowF l.length fun k => ints ((List.range pre.length).filter fun i => DL l i k):=rowF_congr fun k _ => by simp
   have hns:nsL l pre.length = needs q.2:=by rw [nsL,hqa]
   have a3:(rowF l.length fun j => if j = pre.length then ((cntF l.length (fun j => decide (nmL l j ∈ needs q.2)):Nat):Int) else if j < pre.length then ((waitsN (DL l) l.length [] j:Nat):Int) else 0) = rowF l.length fun j => if j < (pre ++ [q]).length then ((waitsN (DL l) l.length [] j:Nat):Int) else 0:=rowF_congr fun j _ => by
    rw [length_append,List.length_singleton]
    by_cases e:j = pre.length
    · subst e; rw [if_pos rfl,if_pos (by omega),waits_none,hns]
    · rw [if_neg e]
      by_cases e2:j < pre.length
      · rw [if_pos e2,if_pos (by omega)]
      · rw [if_neg e2,if_neg (by omega)]
   have a4:(rowF l.length fun k => ints ((List.range pre.length).filter fun i => DL l i k) ++ if nmL l k ∈ needs q.2 then [((pre.length:Nat):Int)] else []) = rowF l.length fun k => ints ((List.range (pre ++ [q]).length).filter fun i => DL l i k):=rowF_congr fun k _ => by
    rw [length_append,List.length_singleton,List.range_succ,List.filter_append]
    by_cases e:nmL l k ∈ needs q.2
    · rw [if_pos e,List.filter_cons_of_pos (by simp [DL,hns,e]),ints_app]; rfl
    · rw [if_neg e,List.filter_cons_of_neg (by simp [DL,hns,e]),List.filter_nil,List.append_nil,List.append_nil]
   rw [a1,a2,a3,a4] at hrun4
   have hhl:h.length ≤ l.length:=heapOf_len H fun j hj => by omega
   have hgp:nth (rowF l.length fun j => if j < (pre ++ [q]).length then ((waitsN (DL l) l.length [] j:Nat):Int) else 0) pre.length = some ((waitsN (DL l) l.length [] pre.length:Nat):Int):=by
    rw [rowF_get _ hp,if_pos (by simp)]
   have go:∀ h1,HeapOf h1 (fun j => j < (pre ++ [q]).length ∧ waitsN (DL l) l.length [] j = 0) → _:=fun h1 H1 => second_loop l hl hq N hN suf (pre ++ [q]) h1 (by simp [he]) H1
   simp only [List.append_assoc,List.singleton_append] at go
   by_cases hz:waitsN (DL l) l.length [] pre.length = 0
   · obtain ⟨h1,hP,H1⟩:=heapOf_push (k:=pre.length) H (fun x => absurd x.1 (by omega)) (by omega)
     obtain ⟨h2,hrun,H2⟩:=go h1 (heapOf_congr H1 fun j => by
      rw [length_append,List.length_singleton]
      constructor
      · rintro (a | a)
        · exact ⟨by omega,a.2⟩
        · exact ⟨by omega,a ▸ hz⟩
      · rintro ⟨a,b⟩
        by_cases e:j = pre.length
        · exact Or.inr e
        · exact Or.inl ⟨by omega,b⟩)
     refine ⟨h2,ob202 ?_,H2⟩
     simp only [b202,lt_mid,inb_mid,nth_mid,cond_true,bind_some,Needs_eq (hq q hqm),hrun4]
     simp only [inb_nat,rowF_len,dt hp,cond_true,Int.toNat_natCast,hgp,bind_some,bt (show ((waitsN (DL l) l.length [] pre.length:Nat):Int) = 0 by omega),hP,next_mid pre q (by omega)]
     exact hrun
   · obtain ⟨h2,hrun,H2⟩:=go h (heapOf_congr H fun j => by
      rw [length_append,List.length_singleton]
      constructor
      · rintro a
        exact ⟨by omega,a.2⟩
      · rintro ⟨a,b⟩
        by_cases e:j = pre.length
        · exact absurd (e ▸ b) hz
        · exact ⟨by omega,b⟩)
     refine ⟨h2,ob202 ?_,H2⟩
     simp only [b202,lt_mid,inb_mid,nth_mid,cond_true,bind_some,Needs_eq (hq q hqm),hrun4]
     simp only [inb_nat,rowF_len,dt hp,cond_true,cond_false,Int.toNat_natCast,hgp,bind_some,bf (show ((waitsN (DL l) l.length [] pre.length:Nat):Int) ≠ 0 by omega),next_mid pre q (by omega)]
     exact hrun
noncomputable def orderL (l:List Eqn):List Int × Int:=ordO (DL l) l.length
theorem Order_eq {l:List Eqn} (hl:l.length ≤ 1000) (hq:∀ q ∈ l,q.2.length ≤ 1000000):c57 T.rf l = some (orderL l):=or57 (by
 obtain ⟨N,h1,hN⟩:=first_loop l hl l [] [] rfl (fun x => by simp [assocGet,assoc,ints])
 rw [List.nil_append,length_nil,show ((0:Nat):Int) = (0:Int) from rfl] at h1
 obtain ⟨h,h2,H⟩:=second_loop l hl hq N hN l [] [] rfl (heapOf_nil fun j hj => absurd hj.1 (by simp))
 rw [List.nil_append,length_nil,show ((0:Nat):Int) = (0:Int) from rfl] at h2
 have e1:(rowF l.length fun j => if j < 0 then ((waitsN (DL l) l.length [] j:Nat):Int) else 0) = List.replicate l.length 0:=by
  rw [rowF_rep]; exact rowF_congr fun j _ => if_neg (by omega)
 have e2:(rowF l.length fun k => ints ((List.range 0).filter fun i => DL l i k)) = List.replicate l.length []:=by
  rw [rowF_rep]; exact rowF_congr fun j _ => rfl
 rw [e1,e2] at h2
 obtain ⟨w,h',h3⟩:=main_loop (D:=DL l) hl l.length [] h Val.nil (by simp) (heapOf_congr H fun j => by
  rw [rdy,Bool.and_eq_true,decide_eq_true_iff]
  simp)
 rw [show ints [] = [] from rfl] at h3
 have hgl:=val_len (greedy_val l.length [] (Val.nil (D:=DL l) (n:=l.length)))
 have hm:inb' ((l.length:Nat):Int) most = true:=inb'_t (by omega) (by rw [show most = 274877906944 from rfl]; omega)
 have hm2:inb' ((l.length:Nat):Int) l.length = true:=inb'_t (by omega) (by omega)
 simp only [r57,df (show ¬ (((l.length:Nat):Int) > 4000) by omega),cond_false,h1,bind_some,hm,hm2,cond_true,h2,h3,ints_len]
 rw [orderL,ordO]
 by_cases hlt:(greedy (DL l) l.length l.length []).length < l.length
 · rw [if_pos hlt,dt (by omega)]; rfl
 · rw [if_neg hlt,df (by omega)]; rfl)
end Go.Proofs.YtadonikkibahnaaGreat.R
