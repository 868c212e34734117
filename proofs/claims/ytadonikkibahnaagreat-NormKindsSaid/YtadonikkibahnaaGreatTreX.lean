import Derived.Test.YtadonikkibahnaaGreatResRun
import Derived.Test.YtadonikkibahnaaGreatBmF
open Option (bind_some)
open List (length_append length_cons length_nil)
open Bool (and_eq_true)
section
namespace Go.Proofs.YtadonikkibahnaaGreat.R
open Go Go.Bm Go.Proofs
set_option linter.unusedVariables false
set_option linter.unusedSimpArgs false
set_option maxRecDepth 4000
theorem kids_eq (n:Nd):c49 T.rf n = some (kids n):=or49 (by
 obtain ⟨op,a,b,c,k,nm⟩:=n
 by_cases h1:op = 26
 · subst h1; rfl
 by_cases h2:op = 28
 · subst h2
   by_cases hb:b = -1
   · subst hb; rfl
   · simp [r49,kids,hb,nbf hb]
 by_cases h3:op = 27
 · subst h3
   by_cases ha:a = -1
   · subst ha; rfl
   · simp [r49,kids,ha,nbf ha,bf ha]
 by_cases h4:op = 4
 · subst h4; rfl
 by_cases h5:op = 5
 · subst h5; rfl
 simp only [r49,kids,bf h1,bf h2,bf h3,bf h4,bf h5,cond_false,if_neg h1,if_neg (show ¬ (op = 28 ∧ b ≠ -1) from fun h => h2 h.1),if_neg (show ¬ (op = 27 ∧ a = -1) from fun h => h3 h.1)]
 by_cases h6:6 ≤ op
 · by_cases h7:op ≤ 20
   · simp [h6,h7]
   · by_cases h8:op ≤ 25
     · simp only [dt h6,df h7,cond_true,cond_false,dt (show op ≥ 21 by omega),dt (show op ≤ 28 by omega),if_neg (show ¬ (6 ≤ op ∧ op ≤ 20) by omega),if_pos (show op = 4 ∨ op = 5 ∨ (21 ≤ op ∧ op ≤ 28) by omega)]
     · simp only [dt h6,df h7,cond_true,cond_false,dt (show op ≥ 21 by omega),df (show ¬ op ≤ 28 by omega),if_neg (show ¬ (6 ≤ op ∧ op ≤ 20) by omega),if_neg (show ¬ (op = 4 ∨ op = 5 ∨ (21 ≤ op ∧ op ≤ 28)) by omega)]
 · simp only [df (show ¬ op ≥ 6 by omega),cond_false,df (show ¬ op ≥ 21 by omega),if_neg (show ¬ (6 ≤ op ∧ op ≤ 20) by omega),if_neg (show ¬ (op = 4 ∨ op = 5 ∨ (21 ≤ op ∧ op ≤ 28)) by omega)])
theorem refKids_eq (n:Nd):c30 T.rf n = some (kids n):=or30 (by
 obtain ⟨op,a,b,c,k,nm⟩:=n
 by_cases h1:op = 26
 · subst h1; rfl
 by_cases h2:op = 28
 · subst h2
   by_cases hb:b = -1
   · subst hb; rfl
   · simp [r30,kids,hb,nbf hb]
 by_cases h3:op = 27
 · subst h3
   by_cases ha:a = -1
   · subst ha; rfl
   · simp [r30,kids,ha,nbf ha,bf ha]
 by_cases h4:op = 4
 · subst h4; rfl
 by_cases h5:op = 5
 · subst h5; rfl
 simp only [r30,kids,bf h1,bf h2,bf h3,bf h4,bf h5,cond_false,if_neg h1,if_neg (show ¬ (op = 28 ∧ b ≠ -1) from fun h => h2 h.1),if_neg (show ¬ (op = 27 ∧ a = -1) from fun h => h3 h.1)]
 by_cases h6:6 ≤ op
 · by_cases h7:op ≤ 20
   · simp [h6,h7,bf (show op ≠ 21 by omega),bf (show op ≠ 22 by omega),bf (show op ≠ 23 by omega),bf (show op ≠ 24 by omega),bf (show op ≠ 25 by omega)]
   · by_cases h8:op ≤ 25
     · have:op = 21 ∨ op = 22 ∨ op = 23 ∨ op = 24 ∨ op = 25:=by omega
       rcases this with rfl | rfl | rfl | rfl | rfl <;> rfl
     · simp only [dt h6,df h7,bf (show op ≠ 21 by omega),bf (show op ≠ 22 by omega),bf (show op ≠ 23 by omega),bf (show op ≠ 24 by omega),bf (show op ≠ 25 by omega),cond_true,cond_false,if_neg (show ¬ (6 ≤ op ∧ op ≤ 20) by omega),if_neg (show ¬ (op = 4 ∨ op = 5 ∨ (21 ≤ op ∧ op ≤ 28)) by omega)]
 · simp only [df (show ¬ op ≥ 6 by omega),bf (show op ≠ 21 by omega),bf (show op ≠ 22 by omega),bf (show op ≠ 23 by omega),bf (show op ≠ 24 by omega),bf (show op ≠ 25 by omega),cond_false,if_neg (show ¬ (6 ≤ op ∧ op ≤ 20) by omega),if_neg (show ¬ (op = 4 ∨ op = 5 ∨ (21 ≤ op ∧ op ≤ 28)) by omega)])
theorem with_eq (n:Nd) (l:List Int):c50 T.rf n l = some (aim n l):=or50 (by
 match l with
 | [] => simp [r50,aim]
 | [a] => simp [r50,aim,nth,inb_nat,show inb 0 1 = true from rfl]
 | [a,b] =>
   by_cases h:n.1 = 28
   · simp [r50,aim,nth,h,show inb 0 2 = true from rfl,show inb 1 2 = true from rfl]
   · have e:=bf h
     simp [r50,aim,nth,h,e,show inb 0 2 = true from rfl,show inb 1 2 = true from rfl]
 | a :: b :: c :: r =>
   have h0:inb 0 (a :: b :: c :: r).length = true:=inb_t (by omega) (by simp; omega)
   have h1:inb 1 (a :: b :: c :: r).length = true:=inb_t (by omega) (by simp; omega)
   have h2:inb 2 (a :: b :: c :: r).length = true:=inb_t (by omega) (by simp; omega)
   have g0:decide ((0:Int) < ((a :: b :: c :: r).length:Nat)) = true:=dt (by simp; omega)
   have g1:decide ((1:Int) < ((a :: b :: c :: r).length:Nat)) = true:=dt (by simp; omega)
   have g2:decide ((2:Int) < ((a :: b :: c :: r).length:Nat)) = true:=dt (by simp; omega)
   have g:((((a :: b :: c :: r).length:Nat):Int) == 2) = false:=bf (by simp; omega)
   simp only [r50,aim,h0,h1,h2,g0,g1,g2,g,cond_true,cond_false,nth,bind_some]
   cases (n.1 == 28) <;> rfl)
theorem aim_eq (n:Nd) (l:List Int):c33 T.rf n l = some (aim n l):=or33 (by
 match l with
 | [] => simp [r33,aim]
 | [a] => simp [r33,aim,nth,inb_nat,show inb 0 1 = true from rfl]
 | [a,b] =>
   by_cases h:n.1 = 28
   · simp [r33,aim,nth,h,show inb 0 2 = true from rfl,show inb 1 2 = true from rfl]
   · have e:=bf h
     simp [r33,aim,nth,h,e,show inb 0 2 = true from rfl,show inb 1 2 = true from rfl]
 | a :: b :: c :: r =>
   have h0:inb 0 (a :: b :: c :: r).length = true:=inb_t (by omega) (by simp; omega)
   have h1:inb 1 (a :: b :: c :: r).length = true:=inb_t (by omega) (by simp; omega)
   have h2:inb 2 (a :: b :: c :: r).length = true:=inb_t (by omega) (by simp; omega)
   have g0:decide ((((a :: b :: c :: r).length:Nat):Int) > 0) = true:=dt (by simp; omega)
   have g1:decide ((((a :: b :: c :: r).length:Nat):Int) > 1) = true:=dt (by simp; omega)
   have g2:decide ((((a :: b :: c :: r).length:Nat):Int) > 2) = true:=dt (by simp; omega)
   have g:((((a :: b :: c :: r).length:Nat):Int) == 2) = false:=bf (by simp; omega)
   simp only [r33,aim,h0,h1,h2,g0,g1,g2,g,cond_true,cond_false,nth,bind_some]
   cases (n.1 == 28) <;> rfl)
theorem isNode_eq (n:Nd):c48 T.rf n = some (nodeB n):=or48 (by
 have hk6:∀ m:Nd,∀ k:Int,k59 T.rb n m k = some (n,m,decide (1 ≤ n.1 ∧ n.1 ≤ 28 ∧ n = m ∧ 0 ≤ n.2.2.2.2.1 ∧ n.2.2.2.2.1 ≤ k ∧ (n.2.2.2.2.2 ≠ [] ↔ (n.1 = 3 ∨ n.1 = 27)))):=fun m k => ob59 (by
  obtain ⟨p1,p2,p3,p4,p5,p6⟩:=n
  obtain ⟨q1,q2,q3,q4,q5,q6⟩:=m
  have hX:∀ X:Prop,∀ _:Decidable X,¬ X → some ((p1,p2,p3,p4,p5,p6),(q1,q2,q3,q4,q5,q6),false) = some ((p1,p2,p3,p4,p5,p6),(q1,q2,q3,q4,q5,q6),decide X):=fun X _ h => by rw [df h]
  have e:∀ c:Bool,((!(p6 == ([]:List UInt8))) == c) = decide (p6 ≠ [] ↔ c = true):=fun c => by cases p6 <;> cases c <;> simp
  simp only [b59,cond_eq_ite,decide_eq_true_eq,beq_iff_eq,and_eq_true,e]
  repeat' split
  all_goals first
   | (refine hX _ _ ?_; simp only [Prod.mk.injEq]; omega)
   | (refine hX _ _ ?_; simp only [Prod.mk.injEq]; rintro ⟨_,_,hh,_⟩; contradiction)
   | (simp only [Option.some.injEq,Prod.mk.injEq,true_and,decide_eq_decide]; constructor
      · intro h; exact ⟨by omega,by omega,by assumption,by omega,by omega,by rw [h]; first | omega | simp [*]⟩
      · rintro ⟨_,_,_,_,_,h⟩; rw [h]; first | omega | simp [*]))
 have hk5:∀ k:Int,k58 T.rb n k = some (n,decide (1 ≤ n.1 ∧ n.1 ≤ 28 ∧ n = aim (n.1,-1,-1,-1,n.2.2.2.2) (kids n) ∧ 0 ≤ n.2.2.2.2.1 ∧ n.2.2.2.2.1 ≤ k ∧ (n.2.2.2.2.2 ≠ [] ↔ (n.1 = 3 ∨ n.1 = 27)))):=fun k => ob58 (by
  simp only [b58,kids_eq,with_eq,hk6,bind_some])
 simp only [r48,hk5,bind_some,nodeB,mostN]
 by_cases h1:n.1 = 1
 · simp [h1]
 by_cases h2:n.1 = 2
 · simp [h2]
 by_cases h3:n.1 = 25
 · simp [h3]
 simp only [bf h1,bf h2,bf h3,cond_false,if_neg h1,if_neg h2,if_neg h3])
theorem len_ne {p:List Nd} (h:p ≠ []):(((p.length:Nat):Int) == 0) = false:=bf (by
 have:=List.length_pos_iff.2 h; omega)
def deepest (acc:List Int):List Int → Int → Int
 | [],m => m
 | k :: ks,m => deepest acc ks (if 0 ≤ k ∧ k < acc.length then (if (acc.getD k.toNat 0) > m then acc.getD k.toNat 0 else m) else m)
def depL:List Nd → List Int → List Int
 | [],acc => acc
 | n :: r,acc => depL r (acc ++ [deepest acc (kids n) 0 + 1])
def depth (e:List Nd):Int:=(depL e []).getLastD 0
theorem depL_len:∀ (e:List Nd) (acc:List Int),(depL e acc).length = acc.length + e.length
 | [],acc => rfl
 | n :: r,acc => by rw [depL,depL_len r]; simp; omega
theorem deepest_le (acc:List Int) (b:Int) (h:∀ x ∈ acc,0 ≤ x ∧ x ≤ b):∀ (ks:List Int) (m:Int),0 ≤ m → m ≤ b → 0 ≤ deepest acc ks m ∧ deepest acc ks m ≤ b
 | [],m,h0,h1 => ⟨h0,h1⟩
 | k :: ks,m,h0,h1 => by
   rw [deepest]
   split
   · rename_i hk
     split
     · have hlt:k.toNat < acc.length:=by omega
       have hm:acc.getD k.toNat 0 ∈ acc:=by
        rw [List.getD_eq_getElem?_getD,List.getElem?_eq_getElem hlt]; exact List.getElem_mem hlt
       exact deepest_le acc b h ks _ (h _ hm).1 (h _ hm).2
     · exact deepest_le acc b h ks m h0 h1
   · exact deepest_le acc b h ks m h0 h1
def row (acc:List Int) (m:Nat):List Int:=acc ++ List.replicate m 0
theorem depths_loop2 (acc:List Int) (m:Nat) (hacc:acc.length + m ≤ 1000000):∀ (suf pre:List Int) (x:Int),pre.length + suf.length ≤ 1000 →
  k69 T.rb (acc ++ x :: List.replicate m 0) (pre ++ suf) (acc.length:Nat) ((pre ++ suf).length:Nat) (pre.length:Nat) = some (acc ++ deepest acc suf x :: List.replicate m 0,pre ++ suf)
 | [],pre,x,h => ob69 (by
   simp only [b69,lt_end,lt_self,List.append_nil,cond_false,deepest])
 | k :: suf,pre,x,h => ob69 (by
   simp only [length_cons] at h
   have ih:=fun y => depths_loop2 acc m hacc suf (pre ++ [k]) y (by simp; omega)
   simp only [List.append_assoc,List.singleton_append] at ih
   simp only [b69,lt_mid,inb_mid,nth_mid,cond_true,bind_some,deepest,next_mid pre k (by omega)]
   by_cases h1:0 ≤ k
   · rw [dt h1,cond_true]
     by_cases h2:k < acc.length
     · have hlen:(acc ++ x :: List.replicate m 0).length = acc.length + (m + 1):=by simp
       have hk:nth (acc ++ x :: List.replicate m 0) k.toNat = some (acc.getD k.toNat 0):=by
        have hlt:k.toNat < acc.length:=by omega
        rw [nth_getElem?,List.getElem?_append_left hlt,List.getD_eq_getElem?_getD,List.getElem?_eq_getElem hlt]; rfl
       have hb:Nat.blt ((acc.length:Nat):Int).toNat (acc ++ x :: List.replicate m 0).length = true:=blt_t (by rw [hlen]; simp)
       rw [dt h2,cond_true,if_pos ⟨h1,h2⟩]
       rw [show inb k (acc ++ x :: List.replicate m 0).length = true from inb_t h1 (by rw [hlen]; omega)]
       simp only [cond_true,hk,bind_some,inb_mid,nth_mid,hb]
       have hset:∀ y,setNth (acc ++ x :: List.replicate m 0) ((acc.length:Nat):Int).toNat y = acc ++ y :: List.replicate m 0:=fun y => by
        rw [setNth_set,Int.toNat_natCast,List.set_append_right _ _ (Nat.le_refl _),Nat.sub_self,List.set_cons_zero]
       rw [hset]
       exact ih _
     · rw [df h2,cond_false,if_neg (by omega)]
       exact ih x
   · rw [df h1,cond_false,if_neg (by omega)]
     exact ih x)
theorem depths_loop0:∀ (suf pre:List Nd) (acc:List Int),acc.length = pre.length → pre.length + suf.length ≤ 1000000 → (∀ x ∈ acc,0 ≤ x ∧ x ≤ acc.length) →
  k68 T.rb (row acc suf.length) (pre ++ suf) ((pre ++ suf).length:Nat) (pre.length:Nat) = some (depL suf acc)
 | [],pre,acc,h,h2,h3 => ob68 (by
   simp [b68,lt_self,depL,row])
 | n :: suf,pre,acc,h,h2,h3 => ob68 (by
   simp only [length_cons] at h2
   have hd:=deepest_le acc acc.length h3 (kids n) 0 (by omega) (by omega)
   have ih:=depths_loop0 suf (pre ++ [n]) (acc ++ [deepest acc (kids n) 0 + 1]) (by simp [h]) (by simp; omega) (fun x hx => by
    rcases List.mem_append.1 hx with hx | hx
    · have:=h3 x hx; simp; omega
    · simp only [List.mem_singleton] at hx; subst hx; simp; omega)
   simp only [List.append_assoc,List.singleton_append] at ih
   have hrow:row acc (n :: suf).length = acc ++ (0:Int) :: List.replicate suf.length 0:=by simp [row,List.replicate_succ]
   have hl:=depths_loop2 acc suf.length (by omega) (kids n) [] 0 (by have:=kids_len n; simp; omega)
   simp only [List.nil_append,length_nil] at hl
   rw [show ((0:Nat):Int) = 0 from rfl] at hl
   have hb:Nat.blt ((acc.length:Nat):Int).toNat (acc ++ deepest acc (kids n) 0 :: List.replicate suf.length 0).length = true:=blt_t (by simp)
   have hset:∀ y,setNth (acc ++ deepest acc (kids n) 0 :: List.replicate suf.length 0) ((acc.length:Nat):Int).toNat y = acc ++ y :: List.replicate suf.length 0:=fun y => by
    rw [setNth_set,Int.toNat_natCast,List.set_append_right _ _ (Nat.le_refl _),Nat.sub_self,List.set_cons_zero]
   simp only [b68,lt_mid,inb_mid,nth_mid,cond_true,bind_some,kids_eq,hrow]
   rw [← h,hl]
   simp only [bind_some,inb_mid,nth_mid,cond_true,hb,hset]
   rw [wr (by omega)]
   rw [h,next_mid pre n (by omega)]
   have e2:acc ++ (deepest acc (kids n) 0 + 1) :: List.replicate suf.length 0 = row (acc ++ [deepest acc (kids n) 0 + 1]) suf.length:=by simp [row]
   rw [e2,depL]
   exact ih)
theorem Depth_eq {e:List Nd} (h:e.length ≤ 1000000):c53 T.rf e = some (depth e):=or53 (by
 simp only [r53]
 by_cases he:e = []
 · subst he; rfl
 rw [len_ne he,cond_false]
 have hd:c54 T.rf e = some (depL e []):=or54 (by
  have hl:=depths_loop0 e [] [] rfl (by simpa using h) (fun x hx => by cases hx)
  simp only [List.nil_append,length_nil,row] at hl
  simp only [r54,inb'_nat,dt (show e.length ≤ most by unfold most; omega),dt (Nat.le_refl e.length),cond_true]
  rw [show (0:Int) = ((0:Nat):Int) from rfl]
  rw [show ((0:Nat):Int) = (0:Int) from rfl] at hl
  rw [show ((0:Nat):Int) = (0:Int) from rfl,hl]; rfl)
 have hlen:(depL e []).length = e.length:=by rw [depL_len]; simp
 have hpos:=List.length_pos_iff.2 he
 rw [hd,bind_some,last_i he (by omega),inb_nat,dt (by omega),cond_true,Int.toNat_natCast,nth_t (by omega),bind_some]
 simp only [depth,Option.some.injEq]
 rw [List.getLastD_eq_getLast?,List.getLast?_eq_getElem?,List.getElem?_eq_getElem (by omega)]
 simp [hlen])
theorem refDepth_loop2 (acc:List Int) (m:Nat) (hacc:acc.length + m ≤ 1000000) (hb0:∀ x ∈ acc,0 ≤ x ∧ x ≤ acc.length):∀ (suf pre:List Int) (x:Int),0 ≤ x → x ≤ acc.length → pre.length + suf.length ≤ 1000 →
  k37 T.rb (acc ++ (x + 1) :: List.replicate m 0) (pre ++ suf) (acc.length:Nat) (pre.length:Nat) = some (acc ++ (deepest acc suf x + 1) :: List.replicate m 0,pre ++ suf)
 | [],pre,x,hx0,hx1,h => ob37 (by
   simp only [b37,lt_end,lt_self,List.append_nil,cond_false,deepest])
 | k :: suf,pre,x,hx0,hx1,h => ob37 (by
   simp only [length_cons] at h
   have ih:=fun y h0 h1 => refDepth_loop2 acc m hacc hb0 suf (pre ++ [k]) y h0 h1 (by simp; omega)
   simp only [List.append_assoc,List.singleton_append] at ih
   simp only [b37,lt_mid,inb_mid,nth_mid,cond_true,bind_some,deepest,next_mid pre k (by omega)]
   by_cases h1:0 ≤ k
   · rw [dt h1,cond_true]
     by_cases h2:k < acc.length
     · have hlen:(acc ++ (x + 1) :: List.replicate m 0).length = acc.length + (m + 1):=by simp
       have hlt:k.toNat < acc.length:=by omega
       have hk:nth (acc ++ (x + 1) :: List.replicate m 0) k.toNat = some (acc.getD k.toNat 0):=by
        rw [nth_getElem?,List.getElem?_append_left hlt,List.getD_eq_getElem?_getD,List.getElem?_eq_getElem hlt]; rfl
       have hm:acc.getD k.toNat 0 ∈ acc:=by
        rw [List.getD_eq_getElem?_getD,List.getElem?_eq_getElem hlt]; exact List.getElem_mem hlt
       have hmb:=hb0 _ hm
       have hb:Nat.blt ((acc.length:Nat):Int).toNat (acc ++ (x + 1) :: List.replicate m 0).length = true:=blt_t (by rw [hlen]; simp)
       rw [dt h2,cond_true,if_pos ⟨h1,h2⟩]
       rw [show inb k (acc ++ (x + 1) :: List.replicate m 0).length = true from inb_t h1 (by rw [hlen]; omega)]
       simp only [cond_true,hk,bind_some,inb_mid,nth_mid,hb]
       have hset:∀ y,setNth (acc ++ (x + 1) :: List.replicate m 0) ((acc.length:Nat):Int).toNat y = acc ++ y :: List.replicate m 0:=fun y => by
        rw [setNth_set,Int.toNat_natCast,List.set_append_right _ _ (Nat.le_refl _),Nat.sub_self,List.set_cons_zero]
       rw [hset,wr (by omega)]
       have e:(if acc.getD k.toNat 0 + 1 > x + 1 then acc.getD k.toNat 0 + 1 else x + 1) = (if acc.getD k.toNat 0 > x then acc.getD k.toNat 0 else x) + 1:=by
        split <;> split <;> omega
       rw [e]
       exact ih _ (by split <;> omega) (by split <;> omega)
     · rw [df h2,cond_false,if_neg (by omega)]
       exact ih x hx0 hx1
   · rw [df h1,cond_false,if_neg (by omega)]
     exact ih x hx0 hx1)
theorem refDepth_loop0:∀ (suf pre:List Nd) (acc:List Int),acc.length = pre.length → pre.length + suf.length ≤ 1000000 → (∀ x ∈ acc,0 ≤ x ∧ x ≤ acc.length) →
  k36 T.rb (row acc suf.length) (pre ++ suf) (pre.length:Nat) = some (depL suf acc)
 | [],pre,acc,h,h2,h3 => ob36 (by
   simp [b36,lt_self,depL,row])
 | n :: suf,pre,acc,h,h2,h3 => ob36 (by
   simp only [length_cons] at h2
   have hd:=deepest_le acc acc.length h3 (kids n) 0 (by omega) (by omega)
   have ih:=refDepth_loop0 suf (pre ++ [n]) (acc ++ [deepest acc (kids n) 0 + 1]) (by simp [h]) (by simp; omega) (fun x hx => by
    rcases List.mem_append.1 hx with hx | hx
    · have:=h3 x hx; simp; omega
    · simp only [List.mem_singleton] at hx; subst hx; simp; omega)
   simp only [List.append_assoc,List.singleton_append] at ih
   have hrow:row acc (n :: suf).length = acc ++ (0:Int) :: List.replicate suf.length 0:=by simp [row,List.replicate_succ]
   have hl:=refDepth_loop2 acc suf.length (by omega) h3 (kids n) [] 0 (by omega) (by omega) (by have:=kids_len n; simp; omega)
   simp only [List.nil_append,length_nil] at hl
   rw [show ((0:Nat):Int) = 0 from rfl,show (0:Int) + 1 = 1 from rfl] at hl
   have hb:Nat.blt ((acc.length:Nat):Int).toNat (acc ++ (0:Int) :: List.replicate suf.length 0).length = true:=blt_t (by simp)
   have hset:setNth (acc ++ (0:Int) :: List.replicate suf.length 0) ((acc.length:Nat):Int).toNat 1 = acc ++ (1:Int) :: List.replicate suf.length 0:=by
    rw [setNth_set,Int.toNat_natCast,List.set_append_right _ _ (Nat.le_refl _),Nat.sub_self,List.set_cons_zero]
   have hin:inb ((pre.length:Nat):Int) (acc ++ (0:Int) :: List.replicate suf.length 0).length = true:=by rw [← h]; exact inb_mid _ _ _
   simp only [b36,lt_mid,inb_mid,nth_mid,cond_true,bind_some,refKids_eq,hrow,hin]
   rw [← h,hb,cond_true,hset,hl]
   simp only [bind_some]
   rw [h,next_mid pre n (by omega)]
   have e2:acc ++ (deepest acc (kids n) 0 + 1) :: List.replicate suf.length 0 = row (acc ++ [deepest acc (kids n) 0 + 1]) suf.length:=by simp [row]
   rw [e2,depL]
   exact ih)
theorem refDepth_eq {e:List Nd} (h:e.length ≤ 1000000):c43 T.rf e = some (depth e):=or43 (by
 have hl:=refDepth_loop0 e [] [] rfl (by simpa using h) (fun x hx => by cases hx)
 simp only [List.nil_append,length_nil,row] at hl
 rw [show ((0:Nat):Int) = (0:Int) from rfl] at hl
 simp only [r43,inb'_nat,dt (show e.length ≤ most by unfold most; omega),dt (Nat.le_refl e.length),cond_true,hl,bind_some]
 by_cases he:e = []
 · subst he; rfl
 rw [len_ne he,cond_false]
 have hlen:(depL e []).length = e.length:=by rw [depL_len]; simp
 have hpos:=List.length_pos_iff.2 he
 rw [last_i he (by omega),inb_nat,dt (by omega),cond_true,Int.toNat_natCast,nth_t (by omega),bind_some]
 simp only [depth,Option.some.injEq]
 rw [List.getLastD_eq_getLast?,List.getLast?_eq_getElem?,List.getElem?_eq_getElem (by omega)]
 simp [hlen])
def opAt (e:List Nd) (k:Nat):Int:=(e.getD k (0,0,0,0,0,[])).1
def argB (e:List Nd) (n:Nd) (at_:Nat) (k:Int):Bool:=decide (opAt e k.toNat = 28) == (decide (n.1 = 27) || (decide (n.1 = 28) && (decide (n.2.2.1 ≠ -1) && decide (at_ = 0))))
def scanK (e:List Nd) (n:Nd) (i:Nat):List Int → Nat → List Nat → Option (List Nat)
 | [],_,V => some V
 | k :: ks,a,V => if 0 ≤ k ∧ k < i ∧ k.toNat ∉ V ∧ argB e n a k = true then scanK e n i ks (a + 1) (V ++ [k.toNat]) else none
def scan (e:List Nd):List Nd → Nat → List Nat → Option (List Nat)
 | [],_,V => some V
 | n :: r,i,V => if nodeB n = true then match scanK e n i (kids n) 0 V with
    | some V' => scan e r (i + 1) V'
    | none => none
   else none
def mayB (e:List Nd):Bool:=decide (e ≠ []) && (decide (e.length ≤ 5000) && (decide (opAt e (e.length - 1) ≠ 28) && (match scan e e 0 [] with
 | none => false
 | some V => (List.range (e.length - 1)).all (fun j => decide (j ∈ V)) && decide (depth e ≤ 40))))
def usedL (N:Nat) (V:List Nat):List Bool:=(List.range N).map fun j => decide (j ∈ V)
theorem usedL_len (N:Nat) (V:List Nat):(usedL N V).length = N:=by simp [usedL]
theorem usedL_get {N:Nat} {V:List Nat} {k:Nat} (h:k < N):nth (usedL N V) k = some (decide (k ∈ V)):=by
 rw [nth_getElem?,usedL,List.getElem?_map,List.getElem?_range h]; rfl
theorem usedL_set {N:Nat} {V:List Nat} {k:Nat} (h:k < N):setNth (usedL N V) k true = usedL N (V ++ [k]):=by
 rw [setNth_set]
 apply List.ext_getElem?
 intro j
 rw [List.getElem?_set]
 by_cases hj:j < N
 · simp only [usedL,List.getElem?_map,List.getElem?_range hj,List.length_map,List.length_range]
   by_cases e:k = j
   · subst e; simp [h]
   · simp [e,Ne.symm e]
 · have hne:k ≠ j:=by omega
   rw [if_neg hne,List.getElem?_eq_none (by rw [usedL_len]; omega),List.getElem?_eq_none (by rw [usedL_len]; omega)]
theorem opAt_nth {e:List Nd} {k:Nat} (h:k < e.length):∃ x,nth e k = some x ∧ x.1 = opAt e k:=by
 refine ⟨e[k],nth_t h,?_⟩
 rw [opAt,List.getD_eq_getElem?_getD,List.getElem?_eq_getElem h]; rfl
theorem May_loop2 (e:List Nd) (n:Nd) (i:Nat) (hi:i < e.length) (hN:e.length ≤ 1000000):∀ (suf pre:List Int) (V:List Nat),pre.length + suf.length ≤ 1000 →
  match scanK e n i suf pre.length V with
  | some V' => k60 T.rb (usedL e.length V) n (pre ++ suf) e (i:Nat) ((pre ++ suf).length:Nat) (pre.length:Nat) = some (.inr (usedL e.length V',n,pre ++ suf))
  | none => ∃ u,k60 T.rb (usedL e.length V) n (pre ++ suf) e (i:Nat) ((pre ++ suf).length:Nat) (pre.length:Nat) = some (.inl (u,n,pre ++ suf,false))
 | [],pre,V,h => ob60 (by
   simp only [b60,lt_end,lt_self,List.append_nil,cond_false])
 | k :: suf,pre,V,h => by
   simp only [length_cons] at h
   have ih:=May_loop2 e n i hi hN suf (pre ++ [k]) (V ++ [k.toNat]) (by simp; omega)
   have hpl:(pre ++ [k]).length = pre.length + 1:=by simp
   simp only [List.append_assoc,List.singleton_append] at ih
   rw [hpl] at ih
   have fall:∀ {u},b60 T.rf T.rb (usedL e.length V) n (pre ++ k :: suf) e (i:Nat) ((pre ++ k :: suf).length:Nat) (pre.length:Nat) = some (.inl (u,n,pre ++ k :: suf,false)) →
    ∃ u,k60 T.rb (usedL e.length V) n (pre ++ k :: suf) e (i:Nat) ((pre ++ k :: suf).length:Nat) (pre.length:Nat) = some (.inl (u,n,pre ++ k :: suf,false)):=fun h => ⟨_,ob60 h⟩
   rw [scanK]
   by_cases h1:0 ≤ k
   case neg =>
    rw [if_neg (by omega)]
    refine fall (u:=usedL e.length V) ?_
    simp only [b60,lt_mid,inb_mid,nth_mid,cond_true,bind_some,dt (show k < 0 by omega)]
   by_cases h2:k < i
   case neg =>
    rw [if_neg (by omega)]
    refine fall (u:=usedL e.length V) ?_
    simp only [b60,lt_mid,inb_mid,nth_mid,cond_true,bind_some,df (show ¬ k < 0 by omega),cond_false,dt (show k ≥ i by omega)]
   have hk:k.toNat < e.length:=by omega
   have hin:inb k (usedL e.length V).length = true:=inb_t h1 (by rw [usedL_len]; omega)
   by_cases h3:k.toNat ∈ V
   · rw [if_neg (by intro hh; exact hh.2.2.1 h3)]
     refine fall (u:=usedL e.length V) ?_
     simp only [b60,lt_mid,inb_mid,nth_mid,cond_true,bind_some,df (show ¬ k < 0 by omega),cond_false,df (show ¬ k ≥ i by omega),hin,usedL_get hk,dt h3]
   have hine:inb k e.length = true:=inb_t h1 (by omega)
   obtain ⟨x,hx,hxo⟩:=opAt_nth hk
   have hbl:Nat.blt k.toNat (usedL e.length V).length = true:=blt_t (by rw [usedL_len]; exact hk)
   have hnext:IntKind.i64.wrap (((pre.length:Nat):Int) + 1) = ((pre.length + 1:Nat):Int):=wr_succ (by omega)
   have hbody:b60 T.rf T.rb (usedL e.length V) n (pre ++ k :: suf) e (i:Nat) ((pre ++ k :: suf).length:Nat) (pre.length:Nat) =
     if argB e n pre.length k = true then k60 T.rb (usedL e.length (V ++ [k.toNat])) n (pre ++ k :: suf) e (i:Nat) ((pre ++ k :: suf).length:Nat) ((pre.length + 1:Nat):Int)
     else some (.inl (usedL e.length (V ++ [k.toNat]),n,pre ++ k :: suf,false)):=by
    simp only [b60,lt_mid,inb_mid,nth_mid,cond_true,bind_some,df (show ¬ k < 0 by omega),cond_false,df (show ¬ k ≥ i by omega),hin,usedL_get hk,df h3,hbl,hine,hx,usedL_set hk,hnext,argB,← hxo]
    have hp0:(((pre.length:Nat):Int) == 0) = decide (pre.length = 0):=by
     by_cases e:pre.length = 0
     · rw [dt e,bt (by omega)]
     · rw [df e,bf (by omega)]
    have hx28:(x.1 == 28) = decide (x.1 = 28):=by
     by_cases e:x.1 = 28
     · rw [dt e,bt e]
     · rw [df e,bf e]
    rw [hp0,hx28]
    by_cases e27:n.1 = 27
    · simp only [bt e27,cond_true,dt e27,Bool.true_or]
      cases decide (x.1 = 28) <;> simp
    · by_cases e28:n.1 = 28
      · by_cases eb:n.2.2.1 = -1
        · simp only [bf e27,bt e28,cond_true,cond_false,nbt eb,dt e28,df e27,df (show ¬ (n.2.2.1 ≠ -1) from fun h => h eb),Bool.false_or,Bool.true_and,Bool.false_and]
          cases decide (x.1 = 28) <;> simp
        · simp only [bf e27,bt e28,cond_true,cond_false,nbf eb,dt e28,df e27,dt (show n.2.2.1 ≠ -1 from eb),Bool.false_or,Bool.true_and]
          cases decide (x.1 = 28) <;> cases decide (pre.length = 0) <;> simp
      · simp only [bf e27,bf e28,cond_false,df e28,df e27,Bool.false_or,Bool.false_and]
        cases decide (x.1 = 28) <;> simp
   by_cases h4:argB e n pre.length k = true
   · rw [if_pos ⟨h1,h2,h3,h4⟩]
     rw [if_pos h4] at hbody
     cases hs:scanK e n i suf (pre.length + 1) (V ++ [k.toNat]) with
     | none =>
       rw [hs] at ih
       obtain ⟨u,ih⟩:=ih
       exact ⟨u,ob60 (hbody.trans ih)⟩
     | some V' =>
       rw [hs] at ih
       dsimp only at ih ⊢
       exact ob60 (hbody.trans ih)
   · rw [if_neg (by intro hh; exact h4 hh.2.2.2)]
     rw [if_neg h4] at hbody
     exact fall hbody
theorem May_loop0 (e:List Nd) (hN:e.length ≤ 1000000):∀ (suf pre:List Nd) (V:List Nat),e = pre ++ suf →
  match scan e suf pre.length V with
  | some V' => k57 T.rb (usedL e.length V) e e (e.length:Nat) (pre.length:Nat) = some (.inr (usedL e.length V'))
  | none => ∃ u,k57 T.rb (usedL e.length V) e e (e.length:Nat) (pre.length:Nat) = some (.inl (u,false))
 | [],pre,V,h => ob57 (by
   subst h
   simp only [b57,lt_end,lt_self,List.append_nil,cond_false])
 | n :: suf,pre,V,h => by
   have ih:=fun V' => May_loop0 e hN suf (pre ++ [n]) V' (by rw [h]; simp)
   have hlt:pre.length < e.length:=by rw [h]; simp
   have hl2:=May_loop2 e n pre.length hlt hN (kids n) [] V (by have:=kids_len n; simp; omega)
   simp only [List.nil_append,length_nil] at hl2
   have a1:decide (((pre.length:Nat):Int) < ((e.length:Nat):Int)) = true:=dt (by omega)
   have a2:inb ((pre.length:Nat):Int) e.length = true:=inb_t (by omega) (by omega)
   have a3:nth e ((pre.length:Nat):Int).toNat = some n:=by rw [h]; exact nth_mid pre n suf
   have a4:IntKind.i64.wrap (((pre.length:Nat):Int) + 1) = ((pre ++ [n]).length:Nat):=next_mid pre n (by omega)
   rw [scan]
   cases hn:nodeB n with
   | false =>
     rw [if_neg (by decide)]
     exact ⟨_,ob57 (by
      simp only [b57,a1,a2,a3,cond_true,bind_some,isNode_eq,hn,Bool.not_false]
      rfl)⟩
   | true =>
     rw [if_pos rfl]
     have hbody:b57 T.rf T.rb (usedL e.length V) e e (e.length:Nat) (pre.length:Nat) = (k60 T.rb (usedL e.length V) n (kids n) e (pre.length:Nat) ((kids n).length:Nat) ((0:Nat):Int)).bind fun z => match z with
       | .inl u => some (.inl (u.1,u.2.2.2))
       | .inr w => k57 T.rb w.1 e e (e.length:Nat) ((pre ++ [n]).length:Nat):=by
      simp only [b57,a1,a2,a3,cond_true,cond_false,bind_some,isNode_eq,hn,Bool.not_true,kids_eq,a4]
      rfl
     cases hs:scanK e n pre.length (kids n) 0 V with
     | none =>
       rw [hs] at hl2
       obtain ⟨u,hl2⟩:=hl2
       exact ⟨u,ob57 (by rw [hbody,hl2]; rfl)⟩
     | some V' =>
       rw [hs] at hl2
       have ih:=ih V'
       rw [length_append,List.length_singleton] at ih
       dsimp only at hl2 ⊢
       cases hs2:scan e suf (pre.length + 1) V' with
       | none =>
         rw [hs2] at ih
         obtain ⟨u,ih⟩:=ih
         exact ⟨u,ob57 (by rw [hbody,hl2,bind_some,length_append,List.length_singleton]; exact ih)⟩
       | some V2 =>
         rw [hs2] at ih
         exact ob57 (by rw [hbody,hl2,bind_some,length_append,List.length_singleton]; exact ih)
theorem IndexB_loop (b:Bool):∀ (suf pre:List Bool),pre.length + suf.length ≤ 1000000 →
  ∃ z,k61 T.rb (pre ++ suf) b ((pre ++ suf).length:Nat) (pre.length:Nat) = some z ∧ (match z with
   | .inl j => 0 ≤ j ∧ b ∈ suf
   | .inr _ => b ∉ suf)
 | [],pre,h => ⟨.inr (),ob61 (by simp only [b61,lt_end,lt_self,List.append_nil,cond_false]),by simp⟩
 | x :: suf,pre,h => by
   simp only [length_cons] at h
   obtain ⟨z,ih,hz⟩:=IndexB_loop b suf (pre ++ [x]) (by simp; omega)
   simp only [List.append_assoc,List.singleton_append] at ih
   by_cases hx:b = x
   · refine ⟨.inl (pre.length:Nat),ob61 ?_,by omega,by simp [hx]⟩
     simp only [b61,lt_mid,inb_mid,nth_mid,cond_true,bind_some,beq_iff_eq.2 hx]
   · refine ⟨z,ob61 ?_,?_⟩
     · simp only [b61,lt_mid,inb_mid,nth_mid,cond_true,cond_false,bind_some,beq_eq_false_iff_ne.2 hx,next_mid pre x (by omega)]
       exact ih
     · cases z with
       | inl j => exact ⟨hz.1,List.mem_cons_of_mem _ hz.2⟩
       | inr j => simp only [List.mem_cons,not_or]; exact ⟨hx,hz⟩
theorem ContainsB_eq {l:List Bool} (b:Bool) (h:l.length ≤ 1000000):c51 T.rf l b = some (decide (b ∈ l)):=or51 (by
 obtain ⟨z,hz,hp⟩:=IndexB_loop b l [] (by simpa using h)
 simp only [List.nil_append,length_nil] at hz
 have hI:∀ z,k61 T.rb l b (l.length:Nat) 0 = some z → c52 T.rf l b = some (match z with
   | .inl j => j
   | .inr _ => -1):=fun z hz => or52 (by
  simp only [r52,hz]
  cases z <;> rfl)
 simp only [r51,hI z hz,bind_some]
 cases z with
 | inl j => rw [dt (show (j:Int) ≥ 0 from hp.1),dt hp.2]
 | inr j => rw [df (show ¬ ((-1:Int) ≥ 0) by decide),df hp])
theorem May_eq {e:List Nd} (h:e.length ≤ 1000000):c47 T.rf e = some (mayB e):=or47 (by
 simp only [r47,mayB]
 by_cases he:e = []
 · subst he; rfl
 have hpos:=List.length_pos_iff.2 he
 rw [len_ne he,cond_false,dt he,Bool.true_and]
 by_cases hl:e.length ≤ 5000
 case neg => rw [dt (show ((e.length:Nat):Int) > 5000 by omega),cond_true,df hl,Bool.false_and]
 rw [df (show ¬ ((e.length:Nat):Int) > 5000 by omega),cond_false,dt hl,Bool.true_and]
 obtain ⟨x,hx,hxo⟩:=opAt_nth (e:=e) (k:=e.length - 1) (by omega)
 rw [last_i he (by omega),inb_nat,dt (show e.length - 1 < e.length by omega),cond_true,Int.toNat_natCast,hx,bind_some]
 by_cases h28:x.1 = 28
 · rw [bt h28,cond_true,df (show ¬ (opAt e (e.length - 1) ≠ 28) from fun g => g (hxo ▸ h28)),Bool.false_and]
 rw [bf h28,cond_false,dt (show opAt e (e.length - 1) ≠ 28 from hxo ▸ h28),Bool.true_and,inb'_nat,dt (show e.length ≤ most by unfold most; omega),cond_true,inb'_nat,dt (Nat.le_refl _),cond_true]
 have h0:=May_loop0 e (by omega) e [] [] rfl
 have hu:usedL e.length [] = List.replicate e.length false:=by
  apply List.ext_getElem?
  intro j
  simp only [usedL,List.getElem?_map,List.getElem?_replicate]
  by_cases hj:j < e.length
  · rw [List.getElem?_range hj,if_pos hj]; simp
  · rw [List.getElem?_eq_none (by simp; omega),if_neg hj]; rfl
 rw [hu] at h0
 simp only [length_nil] at h0
 rw [show ((0:Nat):Int) = (0:Int) from rfl] at h0
 cases hs:scan e e 0 [] with
 | none =>
   rw [hs] at h0
   obtain ⟨u,h0⟩:=h0
   rw [h0]; rfl
 | some V =>
   rw [hs] at h0
   rw [h0]
   simp only [bind_some,usedL_len,inb'_nat,dt (show e.length - 1 ≤ e.length by omega),cond_true,sub_zero,Nat.sub_zero]
   have hlen:((usedL e.length V).take (e.length - 1)).length ≤ 1000000:=by simp [usedL_len]; omega
   rw [ContainsB_eq false hlen,bind_some]
   have hall:decide (false ∈ (usedL e.length V).take (e.length - 1)) = !((List.range (e.length - 1)).all fun j => decide (j ∈ V)):=by
    have key:false ∈ (usedL e.length V).take (e.length - 1) ↔ ∃ j,j < e.length - 1 ∧ j ∉ V:=by
     rw [List.mem_iff_getElem?]
     constructor
     · rintro ⟨j,hj⟩
       rw [List.getElem?_take] at hj
       split at hj
       · rename_i hlt
         rw [usedL,List.getElem?_map,List.getElem?_range (by omega)] at hj
         exact ⟨j,hlt,by simpa using hj⟩
       · cases hj
     · rintro ⟨j,hlt,hj⟩
       refine ⟨j,?_⟩
       rw [List.getElem?_take,if_pos hlt,usedL,List.getElem?_map,List.getElem?_range (by omega)]
       simpa using hj
    cases hc:(List.range (e.length - 1)).all fun j => decide (j ∈ V)
    · refine dt (key.2 ?_)
      rw [List.all_eq_false] at hc
      obtain ⟨j,h1,h2⟩:=hc
      exact ⟨j,List.mem_range.1 h1,by simpa using h2⟩
    · refine df (fun hh => ?_)
      obtain ⟨j,h1,h2⟩:=key.1 hh
      rw [List.all_eq_true] at hc
      exact h2 (by simpa using hc j (List.mem_range.2 h1))
   rw [hall,Bool.not_not]
   cases (List.range (e.length - 1)).all fun j => decide (j ∈ V)
   · rfl
   · rw [cond_true,Depth_eq (by omega),bind_some,Bool.true_and])
theorem eqm (x y:Int):(x == y) = decide (x = y):=by
 by_cases e:x = y
 · rw [dt e,bt e]
 · rw [df e,bf e]
theorem bare_eq (n:Nd):c107 T.rf n = some (decide (n = aim (n.1,-1,-1,-1,n.2.2.2.2) (kids n))):=or107 (by
 obtain ⟨op,a,b,c,k,nm⟩:=n
 simp only [r107,refKids_eq,bind_some]
 by_cases h26:op = 26
 · subst h26
   simp [kids,aim]
 by_cases h28:op = 28
 · subst h28
   by_cases hb:b = -1
   · subst hb
     simp [kids,aim,eqm]
   · simp [kids,aim,hb,eqm]
 by_cases h27:op = 27
 · subst h27
   by_cases ha:a = -1
   · subst ha
     by_cases hb:b = -1
     · subst hb; simp [kids,aim,eqm]
     · simp [kids,aim,eqm,hb]
   · by_cases hb:b = -1
     · subst hb; simp [kids,aim,eqm,ha]
     · simp [kids,aim,eqm,hb,ha]
 simp only [bf h27,bf h28,cond_false]
 by_cases h6:6 ≤ op ∧ op ≤ 20
 · have hk:kids (op,a,b,c,k,nm) = [a,b]:=by
    simp only [kids]; rw [if_neg h26,if_neg (fun h => h28 h.1),if_neg (fun h => h27 h.1),if_pos h6]
   rw [hk]
   simp [aim,h28,eqm]
 by_cases h4:op = 4 ∨ op = 5 ∨ (21 ≤ op ∧ op ≤ 28)
 · have hk:kids (op,a,b,c,k,nm) = [a]:=by
    simp only [kids]; rw [if_neg h26,if_neg (fun h => h28 h.1),if_neg (fun h => h27 h.1),if_neg h6,if_pos h4]
   rw [hk]
   by_cases hb:b = -1
   · subst hb; simp [aim,eqm]
   · simp [aim,hb,eqm]
 · have hk:kids (op,a,b,c,k,nm) = []:=by
    simp only [kids]; rw [if_neg h26,if_neg (fun h => h28 h.1),if_neg (fun h => h27 h.1),if_neg h6,if_neg h4]
   rw [hk]
   by_cases ha:a = -1
   · by_cases hb:b = -1
     · subst hb; subst ha; simp [aim,eqm]
     · subst ha; simp [aim,hb,eqm]
   · simp [aim,ha,eqm])
theorem plain_eq (n:Nd):c108 T.rf n = some (decide (0 ≤ n.2.2.2.2.1 ∧ n.2.2.2.2.1 ≤ mostN n.1 ∧ (n.2.2.2.2.2 ≠ [] ↔ (n.1 = 3 ∨ n.1 = 27)))):=or108 (by
 obtain ⟨op,a,b,c,k,nm⟩:=n
 have e:∀ c:Bool,((!(nm == ([]:List UInt8))) == c) = decide (nm ≠ [] ↔ c = true):=fun c => by cases nm <;> cases c <;> simp
 simp only [r108,e,mostN,eqm]
 have key:∀ (Q:Prop) [Decidable Q] (P:Prop) [Decidable P] (M:Int),(P ↔ (0 ≤ k ∧ k ≤ M)) → (Q ↔ (nm ≠ [] ↔ (op = 3 ∨ op = 27))) → ∀ x:Option Bool,x = some (decide P) → (bif !decide Q then some false else x) = some (decide (0 ≤ k ∧ k ≤ M ∧ (nm ≠ [] ↔ (op = 3 ∨ op = 27)))):=by
  intro Q _ P _ M h1 h2 x hx
  by_cases hq:Q
  · rw [dt hq,Bool.not_true,cond_false,hx]
    by_cases hp:P
    · rw [dt hp,dt ⟨(h1.1 hp).1,(h1.1 hp).2,h2.1 hq⟩]
    · rw [df hp,df (fun hh => hp (h1.2 ⟨hh.1,hh.2.1⟩))]
  · rw [df hq,Bool.not_false,cond_true,df (fun hh => hq (h2.2 hh.2.2))]
 have two:∀ M:Int,(bif decide (k ≥ 0) then some (decide (k ≤ M)) else some false) = some (decide (0 ≤ k ∧ k ≤ M)):=fun M => by
  by_cases h0:0 ≤ k
  · rw [dt (show k ≥ 0 from h0),cond_true]; simp [h0]
  · rw [df (show ¬ k ≥ 0 from h0),cond_false]; simp [h0]
 by_cases h3:op = 3
 · subst h3
   exact key _ (k = 0) 0 (by omega) (by simp) _ rfl
 by_cases h27:op = 27
 · subst h27
   exact key _ (k = 0) 0 (by omega) (by simp) _ rfl
 rw [df h3,cond_false,df h27]
 by_cases h1:op = 1
 · subst h1
   exact key _ (0 ≤ k ∧ k ≤ 2147483647) 2147483647 Iff.rfl (by simp) _ (two _)
 by_cases h2:op = 2
 · subst h2
   refine key _ (0 ≤ k ∧ k ≤ 1) 1 Iff.rfl (by simp) _ ?_
   by_cases h0:k = 0
   · subst h0; rfl
   · rw [df (show ¬ (2:Int) = 1 by decide),cond_false,dt rfl,cond_true,df h0,cond_false]
     by_cases h1:k = 1
     · subst h1; rfl
     · rw [df h1,df (by omega)]
 by_cases h25:op = 25
 · subst h25
   exact key _ (0 ≤ k ∧ k ≤ 1000) 1000 Iff.rfl (by simp) _ (two _)
 rw [df h1,df h2,df h25,if_neg h1,if_neg h2,if_neg h25]
 exact key _ (k = 0) 0 (by omega) (by simp [h3,h27]) _ rfl)
def argsB (e:List Nd) (n:Nd):List Int → Nat → Bool
 | [],_ => true
 | k :: ks,a => argB e n a k && argsB e n ks (a + 1)
theorem args_loop (e:List Nd) (n:Nd) (h28:n.1 = 28 → ((kids n).length = 2 ↔ n.2.2.1 ≠ -1)):∀ (suf pre:List Int),kids n = pre ++ suf → (∀ k ∈ suf,0 ≤ k ∧ k < e.length) →
  (argsB e n suf pre.length = true ∧ k393 T.rb n (kids n) e (pre.length:Nat) = some (.inr (n,kids n))) ∨
  (argsB e n suf pre.length = false ∧ k393 T.rb n (kids n) e (pre.length:Nat) = some (.inl (n,kids n,false)))
 | [],pre,h,hk => .inl ⟨rfl,ob393 (by
   rw [h]; simp only [b393,lt_end,lt_self,List.append_nil,cond_false])⟩
 | k :: suf,pre,h,hk => by
   have hkk:=hk k List.mem_cons_self
   have ih:=args_loop e n h28 suf (pre ++ [k]) (by rw [h]; simp) (fun q hq => hk q (List.mem_cons_of_mem _ hq))
   have hpl:(pre ++ [k]).length = pre.length + 1:=by simp
   have hk3:=kids_len n
   rw [hpl] at ih
   have hk':k.toNat < e.length:=by omega
   obtain ⟨x,hx,hxo⟩:=opAt_nth hk'
   have a1:decide (((pre.length:Nat):Int) < (((kids n).length:Nat):Int)) = true:=by rw [h]; exact lt_mid pre k suf
   have a2:inb ((pre.length:Nat):Int) (kids n).length = true:=by rw [h]; exact inb_mid pre k suf
   have a3:nth (kids n) ((pre.length:Nat):Int).toNat = some k:=by rw [h]; exact nth_mid pre k suf
   have a4:IntKind.i64.wrap (((pre.length:Nat):Int) + 1) = ((pre.length + 1:Nat):Int):=wr_succ (by rw [h] at hk3; simp at hk3; omega)
   have hine:inb k e.length = true:=inb_t hkk.1 hkk.2
   have hp0:(((pre.length:Nat):Int) == 0) = decide (pre.length = 0):=by
    by_cases e:pre.length = 0
    · rw [dt e,bt (by omega)]
    · rw [df e,bf (by omega)]
   have hbody:b393 T.rf T.rb n (kids n) e (pre.length:Nat) = if argB e n pre.length k = true then k393 T.rb n (kids n) e ((pre.length + 1:Nat):Int) else some (.inl (n,kids n,false)):=by
    simp only [b393,a1,a2,a3,a4,cond_true,bind_some,hine,hx,argB,← hxo,hp0,eqm x.1 28]
    by_cases e27:n.1 = 27
    · simp only [bt e27,cond_true,dt e27,Bool.true_or]
      cases decide (x.1 = 28) <;> simp
    · by_cases e28:n.1 = 28
      · have:=h28 e28
        by_cases eb:n.2.2.1 = -1
        · have hl:(kids n).length ≠ 2:=fun hh => (this.1 hh) eb
          simp only [bf e27,bt e28,cond_true,cond_false,bf (show (((kids n).length:Nat):Int) ≠ 2 by omega),dt e28,df e27,df (show ¬ (n.2.2.1 ≠ -1) from fun h => h eb),Bool.false_or,Bool.true_and,Bool.false_and]
          cases decide (x.1 = 28) <;> simp
        · have hl:(kids n).length = 2:=this.2 eb
          simp only [bf e27,bt e28,cond_true,cond_false,bt (show (((kids n).length:Nat):Int) = 2 by omega),dt e28,df e27,dt (show n.2.2.1 ≠ -1 from eb),Bool.false_or,Bool.true_and]
          cases decide (x.1 = 28) <;> cases decide (pre.length = 0) <;> simp
      · simp only [bf e27,bf e28,cond_false,df e28,df e27,Bool.false_or,Bool.false_and]
        cases decide (x.1 = 28) <;> simp
   cases hA:argB e n pre.length k with
   | false =>
     rw [hA,if_neg (by decide)] at hbody
     exact .inr ⟨by simp [argsB,hA],ob393 hbody⟩
   | true =>
     rw [hA,if_pos rfl] at hbody
     rcases ih with ⟨h1,h2⟩ | ⟨h1,h2⟩
     · exact .inl ⟨by simp [argsB,hA,h1],ob393 (hbody.trans h2)⟩
     · exact .inr ⟨by simp [argsB,hA,h1],ob393 (hbody.trans h2)⟩
theorem kids28 (n:Nd) (h:n.1 = 28):(kids n).length = 2 ↔ n.2.2.1 ≠ -1:=by
 obtain ⟨op,a,b,c,k,nm⟩:=n
 simp only at h
 subst h
 by_cases hb:b = -1
 · subst hb; simp [kids]
 · simp [kids,hb]
theorem args_eq {e:List Nd} {i:Nat} {n:Nd} (hi:nth e i = some n) (hil:i < e.length) (hk:∀ k ∈ kids n,0 ≤ k ∧ k < e.length):c109 T.rf e (i:Nat) = some (argsB e n (kids n) 0):=or109 (by
 have:=args_loop e n (kids28 n) (kids n) [] rfl hk
 simp only [length_nil] at this
 rw [show ((0:Nat):Int) = (0:Int) from rfl] at this
 simp only [r109,inb_nat,dt hil,cond_true,Int.toNat_natCast,hi,bind_some,refKids_eq]
 rcases this with ⟨h1,h2⟩ | ⟨h1,h2⟩ <;> rw [h1,h2] <;> rfl)
def cnt (N:Nat) (V:List Nat):List Int:=(List.range N).map fun j => ((V.count j:Nat):Int)
theorem cnt_len (N:Nat) (V:List Nat):(cnt N V).length = N:=by simp [cnt]
theorem cnt_get {N:Nat} {V:List Nat} {k:Nat} (h:k < N):nth (cnt N V) k = some ((V.count k:Nat):Int):=by
 rw [nth_getElem?,cnt,List.getElem?_map,List.getElem?_range h]; rfl
theorem cnt_set {N:Nat} {V:List Nat} {k:Nat} (h:k < N):setNth (cnt N V) k (((V.count k + 1:Nat):Int)) = cnt N (V ++ [k]):=by
 rw [setNth_set]
 apply List.ext_getElem?
 intro j
 rw [List.getElem?_set]
 by_cases hj:j < N
 · simp only [cnt,List.getElem?_map,List.getElem?_range hj,List.length_map,List.length_range]
   by_cases e:k = j
   · subst e; simp [h,List.count_append]
   · simp [e,List.count_append,List.count_singleton]
 · have hne:k ≠ j:=by omega
   rw [if_neg hne,List.getElem?_eq_none (by rw [cnt_len]; omega),List.getElem?_eq_none (by rw [cnt_len]; omega)]
def rangeB (i:Nat) (ks:List Int):Bool:=ks.all fun k => decide (0 ≤ k ∧ k < i)
theorem refMay_loop2 (N i:Nat) (hi:i < N) (ks:List Int) (hks:ks.length ≤ 3):∀ (suf pre:List Int) (V:List Nat),ks = pre ++ suf → V.length + suf.length ≤ 1000000000 →
  (rangeB i suf = true ∧ k392 T.rb (cnt N V) ks (i:Nat) (pre.length:Nat) = some (.inr (cnt N (V ++ suf.map Int.toNat),ks))) ∨
  (rangeB i suf = false ∧ ∃ u,k392 T.rb (cnt N V) ks (i:Nat) (pre.length:Nat) = some (.inl (u,ks,false)))
 | [],pre,V,h,hV => .inl ⟨rfl,ob392 (by
   rw [h]; simp only [b392,lt_end,lt_self,List.append_nil,cond_false,List.map_nil])⟩
 | k :: suf,pre,V,h,hV => by
   simp only [length_cons] at hV
   have ih:=refMay_loop2 N i hi ks hks suf (pre ++ [k]) (V ++ [k.toNat]) (by rw [h]; simp) (by simp; omega)
   have hpl:(pre ++ [k]).length = pre.length + 1:=by simp
   rw [hpl] at ih
   have a1:decide (((pre.length:Nat):Int) < ((ks.length:Nat):Int)) = true:=by rw [h]; exact lt_mid pre k suf
   have a2:inb ((pre.length:Nat):Int) ks.length = true:=by rw [h]; exact inb_mid pre k suf
   have a3:nth ks ((pre.length:Nat):Int).toNat = some k:=by rw [h]; exact nth_mid pre k suf
   have a4:IntKind.i64.wrap (((pre.length:Nat):Int) + 1) = ((pre.length + 1:Nat):Int):=wr_succ (by rw [h] at hks; simp at hks; omega)
   by_cases h1:0 ≤ k
   case neg => exact .inr ⟨by simp [rangeB,h1],_,ob392 (by
    simp only [b392,a1,a2,a3,cond_true,bind_some,dt (show k < 0 by omega)]; rfl)⟩
   by_cases h2:k < i
   case neg => exact .inr ⟨by simp [rangeB,h2],_,ob392 (by
    simp only [b392,a1,a2,a3,cond_true,bind_some,df (show ¬ k < 0 by omega),cond_false,dt (show k ≥ i by omega)]; rfl)⟩
   have hkN:k.toNat < N:=by omega
   have hin:inb k (cnt N V).length = true:=inb_t h1 (by rw [cnt_len]; omega)
   have hbl:Nat.blt k.toNat (cnt N V).length = true:=blt_t (by rw [cnt_len]; exact hkN)
   have hcl:V.count k.toNat ≤ V.length:=List.count_le_length
   have hbody:b392 T.rf T.rb (cnt N V) ks (i:Nat) (pre.length:Nat) = k392 T.rb (cnt N (V ++ [k.toNat])) ks (i:Nat) ((pre.length + 1:Nat):Int):=by
    simp only [b392,a1,a2,a3,a4,cond_true,bind_some,df (show ¬ k < 0 by omega),cond_false,df (show ¬ k ≥ i by omega),hin,cnt_get hkN,hbl,wr_succ (show V.count k.toNat < 4611686018427387904 by omega),cnt_set hkN]
   have hr:rangeB i (k :: suf) = rangeB i suf:=by simp [rangeB,h1,h2]
   rw [hr]
   rcases ih with ⟨g1,g2⟩ | ⟨g1,u,g2⟩
   · refine .inl ⟨g1,ob392 (hbody.trans ?_)⟩
     rw [g2]; simp
   · exact .inr ⟨g1,u,ob392 (hbody.trans g2)⟩
def scanR (e:List Nd):List Nd → Nat → List Nat → Option (List Nat)
 | [],_,V => some V
 | n :: r,i,V => if nodeB n = true ∧ rangeB i (kids n) = true ∧ argsB e n (kids n) 0 = true then scanR e r (i + 1) (V ++ (kids n).map Int.toNat) else none
theorem nodeB_split (n:Nd):nodeB n = (decide (1 ≤ n.1) && (decide (n.1 ≤ 28) && (decide (n = aim (n.1,-1,-1,-1,n.2.2.2.2) (kids n)) && decide (0 ≤ n.2.2.2.2.1 ∧ n.2.2.2.2.1 ≤ mostN n.1 ∧ (n.2.2.2.2.2 ≠ [] ↔ (n.1 = 3 ∨ n.1 = 27)))))):=by
 unfold nodeB
 rw [Bool.eq_iff_iff]
 simp only [decide_eq_true_eq,and_eq_true]
theorem refMay_loop0 (e:List Nd) (hN:e.length ≤ 1000000):∀ (suf pre:List Nd) (V:List Nat),e = pre ++ suf → V.length ≤ 3 * pre.length →
  match scanR e suf pre.length V with
  | some V' => k391 T.rb (cnt e.length V) e (pre.length:Nat) = some (.inr (cnt e.length V'))
  | none => ∃ u,k391 T.rb (cnt e.length V) e (pre.length:Nat) = some (.inl (u,false))
 | [],pre,V,h,hV => ob391 (by
   subst h
   simp only [b391,lt_end,lt_self,List.append_nil,cond_false])
 | n :: suf,pre,V,h,hV => by
   have hk3:=kids_len n
   have ih:=refMay_loop0 e hN suf (pre ++ [n]) (V ++ (kids n).map Int.toNat) (by rw [h]; simp) (by simp; omega)
   have hpl:(pre ++ [n]).length = pre.length + 1:=by simp
   rw [hpl] at ih
   have hlt:pre.length < e.length:=by rw [h]; simp
   have hl2:=refMay_loop2 e.length pre.length hlt (kids n) hk3 (kids n) [] V rfl (by omega)
   simp only [length_nil] at hl2
   rw [show ((0:Nat):Int) = (0:Int) from rfl] at hl2
   have a1:decide (((pre.length:Nat):Int) < ((e.length:Nat):Int)) = true:=dt (by omega)
   have a2:inb ((pre.length:Nat):Int) e.length = true:=inb_t (by omega) (by omega)
   have a3':nth e pre.length = some n:=by rw [h,nth_getElem?]; simp
   have a3:nth e ((pre.length:Nat):Int).toNat = some n:=by rw [Int.toNat_natCast]; exact a3'
   have a4:IntKind.i64.wrap (((pre.length:Nat):Int) + 1) = ((pre.length + 1:Nat):Int):=wr_succ (by omega)
   rw [scanR]
   have out:∀ {u},b391 T.rf T.rb (cnt e.length V) e (pre.length:Nat) = some (.inl (u,false)) → ∃ u,k391 T.rb (cnt e.length V) e (pre.length:Nat) = some (.inl (u,false)):=fun h => ⟨_,ob391 h⟩
   have hsp:=nodeB_split n
   by_cases h1:1 ≤ n.1
   case neg =>
    rw [df h1,Bool.false_and] at hsp
    rw [if_neg (by rw [hsp]; intro hh; cases hh.1)]
    exact out (u:=cnt e.length V) (by simp only [b391,a1,a2,a3,cond_true,bind_some,dt (show n.1 < 1 by omega)])
   by_cases h2:n.1 ≤ 28
   case neg =>
    rw [df h2,Bool.false_and,Bool.and_false] at hsp
    rw [if_neg (by rw [hsp]; intro hh; cases hh.1)]
    exact out (u:=cnt e.length V) (by simp only [b391,a1,a2,a3,cond_true,bind_some,df (show ¬ n.1 < 1 by omega),cond_false,dt (show n.1 > 28 by omega)])
   rw [dt h1,dt h2,Bool.true_and,Bool.true_and] at hsp
   cases hb:decide (n = aim (n.1,-1,-1,-1,n.2.2.2.2) (kids n))
   · rw [hb,Bool.false_and] at hsp
     rw [if_neg (by rw [hsp]; intro hh; cases hh.1)]
     exact out (u:=cnt e.length V) (by simp only [b391,a1,a2,a3,cond_true,bind_some,df (show ¬ n.1 < 1 by omega),cond_false,df (show ¬ n.1 > 28 by omega),bare_eq,hb,Bool.not_false])
   rw [hb,Bool.true_and] at hsp
   cases hp:decide (0 ≤ n.2.2.2.2.1 ∧ n.2.2.2.2.1 ≤ mostN n.1 ∧ (n.2.2.2.2.2 ≠ [] ↔ (n.1 = 3 ∨ n.1 = 27)))
   · rw [hp] at hsp
     rw [if_neg (by rw [hsp]; intro hh; cases hh.1)]
     exact out (u:=cnt e.length V) (by simp only [b391,a1,a2,a3,cond_true,bind_some,df (show ¬ n.1 < 1 by omega),cond_false,df (show ¬ n.1 > 28 by omega),bare_eq,hb,Bool.not_true,plain_eq,hp,Bool.not_false])
   rw [hp] at hsp
   have hbody:b391 T.rf T.rb (cnt e.length V) e (pre.length:Nat) = (k392 T.rb (cnt e.length V) (kids n) (pre.length:Nat) 0).bind fun z => match z with
     | .inl u => some (.inl (u.1,u.2.2))
     | .inr w => (c109 T.rf e (pre.length:Nat)).bind fun y => bif !y then some (.inl (w.1,false)) else k391 T.rb w.1 e ((pre.length + 1:Nat):Int):=by
    simp only [b391,a1,a2,a3,cond_true,cond_false,bind_some,df (show ¬ n.1 < 1 by omega),df (show ¬ n.1 > 28 by omega),bare_eq,hb,Bool.not_true,plain_eq,hp,refKids_eq,a4]
    rfl
   rcases hl2 with ⟨g1,g2⟩ | ⟨g1,u,g2⟩
   · have hkr:∀ k ∈ kids n,0 ≤ k ∧ k < e.length:=fun k hk => by
      have:=List.all_eq_true.1 g1 k hk
      simp only [decide_eq_true_eq] at this
      omega
     rw [g2,bind_some] at hbody
     simp only [args_eq a3' hlt hkr,bind_some] at hbody
     cases ha:argsB e n (kids n) 0
     · rw [ha] at hbody
       rw [if_neg (by intro hh; cases hh.2.2)]
       exact out hbody
     · rw [ha] at hbody
       rw [if_pos ⟨hsp,g1,rfl⟩]
       cases hs:scanR e suf (pre.length + 1) (V ++ (kids n).map Int.toNat) with
       | none =>
         rw [hs] at ih
         obtain ⟨u,ih⟩:=ih
         exact out (hbody.trans ih)
       | some V' =>
         rw [hs] at ih
         exact ob391 (hbody.trans ih)
   · rw [if_neg (by rw [g1]; intro hh; cases hh.2.1)]
     rw [g2] at hbody
     exact out hbody
theorem refMay_loop4 (e:List Nd) (he:e ≠ []) (hN:e.length ≤ 1000000) (V:List Nat):∀ (m j:Nat),j + m = e.length - 1 →
  ((∀ q,j ≤ q → q < e.length - 1 → V.count q = 1) ∧ k394 T.rb (cnt e.length V) e (j:Nat) = some (.inr (cnt e.length V))) ∨
  ((∃ q,j ≤ q ∧ q < e.length - 1 ∧ V.count q ≠ 1) ∧ k394 T.rb (cnt e.length V) e (j:Nat) = some (.inl (cnt e.length V,false)))
 | 0,j,h => .inl ⟨fun q h1 h2 => by omega,ob394 (by
   simp only [b394,last_i he (by omega),df (show ¬ ((j:Int) < ((e.length - 1:Nat):Int)) by omega),cond_false])⟩
 | m + 1,j,h => by
   have ih:=refMay_loop4 e he hN V m (j + 1) (by omega)
   have hj:j < e.length:=by omega
   have hin:inb (j:Int) (cnt e.length V).length = true:=inb_t (by omega) (by rw [cnt_len]; omega)
   by_cases hc:V.count j = 1
   · have hbody:b394 T.rf T.rb (cnt e.length V) e (j:Nat) = k394 T.rb (cnt e.length V) e ((j + 1:Nat):Int):=by
      simp only [b394,last_i he (by omega),dt (show ((j:Int) < ((e.length - 1:Nat):Int)) by omega),cond_true,hin,Int.toNat_natCast,cnt_get hj,bind_some,hc,wr_succ (show j < 4611686018427387904 by omega)]
      rfl
     rcases ih with ⟨g1,g2⟩ | ⟨⟨q,g1,g3,g4⟩,g2⟩
     · refine .inl ⟨fun q h1 h2 => ?_,ob394 (hbody.trans g2)⟩
       rcases Nat.lt_or_eq_of_le h1 with h3 | h3
       · exact g1 q h3 h2
       · subst h3; exact hc
     · exact .inr ⟨⟨q,by omega,g3,g4⟩,ob394 (hbody.trans g2)⟩
   · refine .inr ⟨⟨j,Nat.le_refl _,by omega,hc⟩,ob394 ?_⟩
     simp only [b394,last_i he (by omega),dt (show ((j:Int) < ((e.length - 1:Nat):Int)) by omega),cond_true,hin,Int.toNat_natCast,cnt_get hj,bind_some,nbf (show ((V.count j:Nat):Int) ≠ 1 by omega)]
theorem nod_count:∀ l:List Nat,l.Nodup ↔ ∀ j,l.count j ≤ 1
 | [] => by simp
 | a :: l => by
   rw [List.nodup_cons,nod_count l]
   constructor
   · rintro ⟨h1,h2⟩ j
     rw [List.count_cons]
     by_cases e:a = j
     · subst e; rw [List.count_eq_zero.2 h1]; simp
     · simp [e,h2 j]
   · intro h
     refine ⟨fun hm => ?_,fun j => ?_⟩
     · have:=h a
       rw [List.count_cons_self] at this
       have:=List.count_pos_iff.2 hm
       omega
     · have:=h j
       rw [List.count_cons] at this
       omega
theorem scanK_iff (e:List Nd) (n:Nd) (i:Nat):∀ (ks:List Int) (a:Nat) (V V':List Nat),V.Nodup → (scanK e n i ks a V = some V' ↔ rangeB i ks = true ∧ argsB e n ks a = true ∧ V' = V ++ ks.map Int.toNat ∧ V'.Nodup)
 | [],a,V,V',hV => by
   simp only [scanK,rangeB,argsB,List.all_nil,List.map_nil,List.append_nil,true_and,Option.some.injEq]
   constructor
   · rintro rfl; exact ⟨rfl,hV⟩
   · rintro ⟨rfl,_⟩; rfl
 | k :: ks,a,V,V',hV => by
   rw [scanK]
   split
   · rename_i h
     have hV2:(V ++ [k.toNat]).Nodup:=List.nodup_append.2 ⟨hV,by simp,fun x hx y hy => by simp at hy; subst hy; intro e; subst e; exact h.2.2.1 hx⟩
     rw [scanK_iff e n i ks (a + 1) (V ++ [k.toNat]) V' hV2]
     simp [rangeB,argsB,h.1,h.2.1,h.2.2.2]
   · rename_i h
     constructor
     · intro hh; cases hh
     · rintro ⟨h1,h2,h3,h4⟩
       exfalso
       simp only [rangeB,List.all_cons,and_eq_true,decide_eq_true_eq] at h1
       simp only [argsB,and_eq_true] at h2
       refine h ⟨h1.1.1,h1.1.2,fun hm => ?_,h2.1⟩
       rw [h3] at h4
       exact (List.nodup_append.1 h4).2.2 _ hm _ (by simp) rfl
theorem scanR_ext (e:List Nd):∀ (r:List Nd) (i:Nat) (V V':List Nat),scanR e r i V = some V' → ∃ W,V' = V ++ W
 | [],i,V,V',h => by cases h; exact ⟨[],by simp⟩
 | n :: r,i,V,V',h => by
   rw [scanR] at h
   split at h
   · obtain ⟨W,rfl⟩:=scanR_ext e r _ _ _ h
     exact ⟨(kids n).map Int.toNat ++ W,by simp⟩
   · cases h
theorem scan_iff (e:List Nd):∀ (r:List Nd) (i:Nat) (V V':List Nat),V.Nodup → (scan e r i V = some V' ↔ scanR e r i V = some V' ∧ V'.Nodup)
 | [],i,V,V',hV => by
   simp only [scan,scanR,Option.some.injEq]
   constructor
   · rintro rfl; exact ⟨rfl,hV⟩
   · exact fun h => h.1
 | n :: r,i,V,V',hV => by
   rw [scan,scanR]
   by_cases hn:nodeB n = true
   case neg => rw [if_neg hn,if_neg (fun h => hn h.1)]; simp
   rw [if_pos hn]
   cases hs:scanK e n i (kids n) 0 V with
   | some V1 =>
     obtain ⟨g1,g2,g3,g4⟩:=(scanK_iff e n i (kids n) 0 V V1 hV).1 hs
     rw [if_pos ⟨hn,g1,g2⟩]
     subst g3
     exact scan_iff e r (i + 1) _ V' g4
   | none =>
     constructor
     · intro h; cases h
     · rintro ⟨h,hd⟩
       split at h
       · rename_i hc
         obtain ⟨W,rfl⟩:=scanR_ext e r _ _ _ h
         have:=(scanK_iff e n i (kids n) 0 V (V ++ (kids n).map Int.toNat) hV).2 ⟨hc.2.1,hc.2.2,rfl,(List.nodup_append.1 hd).1⟩
         rw [hs] at this; cases this
       · cases h
theorem scanR_lt (e:List Nd) (m:Nat):∀ (r:List Nd) (i:Nat) (V V':List Nat),scanR e r i V = some V' → (∀ x ∈ V,x < m) → i + r.length ≤ m + 1 → ∀ x ∈ V',x < m
 | [],i,V,V',h,hV,hm => by cases h; exact hV
 | n :: r,i,V,V',h,hV,hm => by
   rw [scanR] at h
   simp only [length_cons] at hm
   split at h
   · rename_i hc
     refine scanR_lt e m r (i + 1) _ V' h (fun x hx => ?_) (by omega)
     rcases List.mem_append.1 hx with hx | hx
     · exact hV x hx
     · obtain ⟨k,hk,rfl⟩:=List.mem_map.1 hx
       have:=List.all_eq_true.1 hc.2.1 k hk
       simp only [decide_eq_true_eq] at this
       omega
   · cases h
theorem refMay_eq {e:List Nd} (h:e.length ≤ 1000000):c106 T.rf e = some (mayB e):=or106 (by
 simp only [r106,mayB]
 by_cases he:e = []
 · subst he; rfl
 have hpos:=List.length_pos_iff.2 he
 rw [df (show ¬ ((e.length:Nat):Int) < 1 by omega),cond_false,dt he,Bool.true_and]
 by_cases hl:e.length ≤ 5000
 case neg => rw [dt (show ((e.length:Nat):Int) > 5000 by omega),cond_true,df hl,Bool.false_and]
 rw [df (show ¬ ((e.length:Nat):Int) > 5000 by omega),cond_false,dt hl,Bool.true_and]
 rw [inb'_nat,dt (show e.length ≤ most by unfold most; omega),cond_true,inb'_nat,dt (Nat.le_refl _),cond_true]
 have h0:=refMay_loop0 e (by omega) e [] [] rfl (by simp)
 have hu:cnt e.length [] = List.replicate e.length 0:=by
  apply List.ext_getElem?
  intro j
  simp only [cnt,List.getElem?_map,List.getElem?_replicate]
  by_cases hj:j < e.length
  · rw [List.getElem?_range hj,if_pos hj]; simp
  · rw [List.getElem?_eq_none (by simp; omega),if_neg hj]; rfl
 rw [hu] at h0
 simp only [length_nil] at h0
 rw [show ((0:Nat):Int) = (0:Int) from rfl] at h0
 have hiff:=fun V => scan_iff e e 0 [] V (by simp)
 cases hs:scanR e e 0 [] with
 | none =>
   rw [hs] at h0
   obtain ⟨u,h0⟩:=h0
   have hn:scan e e 0 [] = none:=by
    cases hsc:scan e e 0 [] with
    | none => rfl
    | some V => have:=((hiff V).1 hsc).1; rw [hs] at this; cases this
   rw [h0,hn,Bool.and_false]; rfl
 | some V =>
   rw [hs] at h0
   rw [h0]
   simp only [bind_some]
   have hlt:=scanR_lt e (e.length - 1) e 0 [] V hs (by simp) (by omega)
   have h4:=refMay_loop4 e he (by omega) V (e.length - 1) 0 (by omega)
   rw [show ((0:Nat):Int) = (0:Int) from rfl] at h4
   obtain ⟨x,hx,hxo⟩:=opAt_nth (e:=e) (k:=e.length - 1) (by omega)
   rcases h4 with ⟨g1,g2⟩ | ⟨⟨q,_,g3,g4⟩,g2⟩
   · have hnd:V.Nodup:=(nod_count V).2 fun j => by
      by_cases hj:j < e.length - 1
      · rw [g1 j (by omega) hj]; omega
      · rw [List.count_eq_zero.2 (fun hm => hj (hlt j hm))]; omega
     have hsc:=(hiff V).2 ⟨hs,hnd⟩
     have hall:((List.range (e.length - 1)).all fun j => decide (j ∈ V)) = true:=List.all_eq_true.2 fun j hj => by
      have:=g1 j (by omega) (List.mem_range.1 hj)
      exact dt (List.count_pos_iff.1 (by omega))
     rw [g2,hsc]
     simp only [bind_some,hall,Bool.true_and]
     rw [last_i he (by omega),inb_nat,dt (show e.length - 1 < e.length by omega),cond_true,Int.toNat_natCast,hx,bind_some]
     by_cases h28:x.1 = 28
     · rw [nbt h28,cond_false,df (show ¬ (opAt e (e.length - 1) ≠ 28) from fun g => g (hxo ▸ h28)),Bool.false_and]
     · rw [nbf h28,cond_true,dt (show opAt e (e.length - 1) ≠ 28 from hxo ▸ h28),Bool.true_and,refDepth_eq (by omega),bind_some]
   · rw [g2]
     have:(match scan e e 0 [] with
       | none => false
       | some V => (List.range (e.length - 1)).all (fun j => decide (j ∈ V)) && decide (depth e ≤ 40)) = false:=by
      cases hsc:scan e e 0 [] with
      | none => rfl
      | some V1 =>
        obtain ⟨k1,k2⟩:=(hiff V1).1 hsc
        rw [hs] at k1
        cases k1
        have hq:q ∉ V:=fun hm => g4 (by
         have:=(nod_count V).1 k2 q
         have:=List.count_pos_iff.2 hm
         omega)
        have:((List.range (e.length - 1)).all fun j => decide (j ∈ V)) = false:=List.all_eq_false.2 ⟨q,List.mem_range.2 g3,by simpa using hq⟩
        simp only [this,Bool.false_and]
     rw [show ∀ (A B:Bool),B = false → some (A && B) = some false from fun A B hb => by rw [hb,Bool.and_false]]
     · rfl
     · exact this)
def nd0:Nd:=(0,0,0,0,0,[])
def ordL (g:Int → List Nd → List Nd):List Int → List Nd → List Int → List Nd × List Int
 | [],o,ks => (o,ks)
 | k :: r,o,ks => ordL g r (g k o) (ks ++ [((g k o).length:Int) - 1])
def ord (e:List Nd):Nat → Int → List Nd → List Nd
 | 0,_,o => o
 | f + 1,i,o => (ordL (ord e f) (kids (e.getD i.toNat nd0)) o []).1 ++ [aim (e.getD i.toNat nd0) (ordL (ord e f) (kids (e.getD i.toNat nd0)) o []).2]
def szL (g:Int → Nat):List Int → Nat
 | [] => 0
 | k :: r => g k + szL g r
def sz (e:List Nd):Nat → Int → Nat
 | 0,_ => 0
 | f + 1,i => 1 + szL (sz e f) (kids (e.getD i.toNat nd0))
def Ahead (e:List Nd):Prop:=∀ (i:Nat) (n:Nd),nth e i = some n → ∀ k ∈ kids n,0 ≤ k ∧ k < i
theorem szL_congr {g h:Int → Nat}:∀ {ks:List Int},(∀ k ∈ ks,g k = h k) → szL g ks = szL h ks
 | [],_ => rfl
 | k :: r,hh => by rw [szL,szL,hh k List.mem_cons_self,szL_congr fun q hq => hh q (List.mem_cons_of_mem _ hq)]
theorem getD_nth {e:List Nd} {i:Nat} (h:i < e.length):nth e i = some (e.getD i nd0):=by
 rw [nth_t h,List.getD_eq_getElem?_getD,List.getElem?_eq_getElem h]; rfl
theorem sz_fuel {e:List Nd} (hA:Ahead e):∀ (f i:Nat),i < f → i < e.length → sz e f (i:Int) = sz e (i + 1) (i:Int)
 | 0,i,h,_ => by omega
 | f + 1,i,h,hi => by
   rw [sz,sz]
   congr 1
   refine szL_congr fun k hk => ?_
   rw [Int.toNat_natCast] at hk
   have:=hA i _ (getD_nth hi) k hk
   obtain ⟨j,rfl⟩:∃ j:Nat,k = j:=⟨k.toNat,by omega⟩
   rw [sz_fuel hA f j (by omega) (by omega),sz_fuel hA i j (by omega) (by omega)]
 termination_by f => f
def Usum (S:Nat → Nat) (V:List Nat):Nat → Nat
 | 0 => 0
 | i + 1 => Usum S V i + if i ∈ V then 0 else S i
theorem Usum_add (S:Nat → Nat) (V:List Nat) (k:Nat) (hk:k ∉ V):∀ i,Usum S (V ++ [k]) i + (if k < i then S k else 0) = Usum S V i
 | 0 => by simp [Usum]
 | i + 1 => by
   have ih:=Usum_add S V k hk i
   simp only [Usum,List.mem_append,List.mem_singleton]
   by_cases e:i = k
   · subst e
     rw [if_neg (by omega)] at ih
     simp [hk]; omega
   · by_cases hV:i ∈ V
     · simp only [hV,true_or,if_true]
       by_cases hlt:k < i
       · rw [if_pos hlt] at ih; rw [if_pos (by omega)]; omega
       · rw [if_neg hlt] at ih; rw [if_neg (by omega)]; omega
     · simp only [hV,e,or_self,if_false]
       by_cases hlt:k < i
       · rw [if_pos hlt] at ih; rw [if_pos (by omega)]; omega
       · rw [if_neg hlt] at ih; rw [if_neg (by omega)]; omega
theorem Usum_adds (S:Nat → Nat) (i:Nat):∀ (ks:List Int) (V:List Nat),(V ++ ks.map Int.toNat).Nodup → (∀ k ∈ ks,0 ≤ k ∧ k < i) → Usum S (V ++ ks.map Int.toNat) i + szL (fun k => S k.toNat) ks = Usum S V i
 | [],V,_,_ => by simp [szL]
 | k :: ks,V,hn,hk => by
   have hk0:=hk k List.mem_cons_self
   have e:V ++ (k :: ks).map Int.toNat = (V ++ [k.toNat]) ++ ks.map Int.toNat:=by simp
   rw [e] at hn ⊢
   have ih:=Usum_adds S i ks (V ++ [k.toNat]) hn (fun q hq => hk q (List.mem_cons_of_mem _ hq))
   have hkV:k.toNat ∉ V:=fun hm => (List.nodup_append.1 (List.nodup_append.1 hn).1).2.2 _ hm _ (by simp) rfl
   have:=Usum_add S V k.toNat hkV i
   rw [if_pos (by omega)] at this
   rw [szL]; omega
theorem scanR_sz (e:List Nd) (S:Nat → Nat) (hS:∀ i n,nth e i = some n → S i = 1 + szL (fun k => S k.toNat) (kids n)):∀ (suf pre:List Nd) (V V':List Nat),e = pre ++ suf → scanR e suf pre.length V = some V' → V'.Nodup →
  (∀ x ∈ V,x < pre.length) → Usum S V pre.length = pre.length → (∀ j,j < pre.length → S j ≤ j + 1) → ∀ j,j < e.length → S j ≤ j + 1
 | [],pre,V,V',h,hs,hn,hV,hU,hj,j,hjl => hj j (by rw [h] at hjl; simpa using hjl)
 | n :: suf,pre,V,V',h,hs,hn,hV,hU,hj,j,hjl => by
   rw [scanR] at hs
   split at hs
   case isFalse => cases hs
   rename_i hc
   have hpl:(pre ++ [n]).length = pre.length + 1:=by simp
   have hi:nth e pre.length = some n:=by rw [h,nth_getElem?]; simp
   obtain ⟨W,rfl⟩:=scanR_ext e suf _ _ _ hs
   have hn1:=(List.nodup_append.1 hn).1
   have hr:∀ k ∈ kids n,0 ≤ k ∧ k < pre.length:=fun k hk => by simpa using List.all_eq_true.1 hc.2.1 k hk
   have hV':∀ x ∈ V ++ (kids n).map Int.toNat,x < pre.length:=fun x hx => by
    rcases List.mem_append.1 hx with hx | hx
    · exact hV x hx
    · obtain ⟨k,hk,rfl⟩:=List.mem_map.1 hx
      have:=hr k hk; omega
   have hU':=Usum_adds S pre.length (kids n) V hn1 hr
   have hSi:=hS _ _ hi
   have hSU:Usum S (V ++ (kids n).map Int.toNat) (pre.length + 1) = pre.length + 1:=by
    rw [Usum,if_neg (fun hm => by have:=hV' _ hm; omega)]; omega
   refine scanR_sz e S hS suf (pre ++ [n]) _ _ (by rw [h]; simp) (by rw [hpl]; exact hs) hn (fun x hx => by have:=hV' x hx; rw [hpl]; omega) (by rw [hpl]; exact hSU) (fun q hq => ?_) j hjl
   rw [hpl] at hq
   rcases Nat.lt_or_eq_of_le (Nat.le_of_lt_succ hq) with h1 | h1
   · exact hj q h1
   · subst h1
     rw [Usum,if_neg (fun hm => by have:=hV' _ hm; omega)] at hSU
     omega
theorem scanR_ahead (e:List Nd):∀ (suf pre:List Nd) (V V':List Nat),e = pre ++ suf → scanR e suf pre.length V = some V' → ∀ (i:Nat) (n:Nd),pre.length ≤ i → nth e i = some n → nodeB n = true ∧ argsB e n (kids n) 0 = true ∧ ∀ k ∈ kids n,0 ≤ k ∧ k < i
 | [],pre,V,V',h,hs,i,n,hi,hn => by
   rw [nth_getElem?] at hn
   have:=(List.getElem?_eq_some_iff.1 hn).1
   rw [h] at this; simp at this; omega
 | m :: suf,pre,V,V',h,hs,i,n,hi,hn => by
   rw [scanR] at hs
   split at hs
   case isFalse => cases hs
   rename_i hc
   have hpl:(pre ++ [m]).length = pre.length + 1:=by simp
   rcases Nat.lt_or_eq_of_le hi with h1 | h1
   · exact scanR_ahead e suf (pre ++ [m]) _ _ (by rw [h]; simp) (by rw [hpl]; exact hs) i n (by rw [hpl]; exact h1) hn
   · subst h1
     rw [h,nth_getElem?] at hn
     simp at hn
     subst hn
     exact ⟨hc.1,hc.2.2,fun k hk => by simpa using List.all_eq_true.1 hc.2.1 k hk⟩
structure MayP (e:List Nd):Prop where
 ne:e ≠ []
 len:e.length ≤ 5000
 last:opAt e (e.length - 1) ≠ 28
 deep:depth e ≤ 40
 node:∀ (i:Nat) (n:Nd),nth e i = some n → nodeB n = true
 args:∀ (i:Nat) (n:Nd),nth e i = some n → argsB e n (kids n) 0 = true
 ahead:Ahead e
 small:∀ i:Nat,i < e.length → sz e (i + 1) (i:Int) ≤ i + 1
theorem may_P {e:List Nd} (h:mayB e = true):MayP e:=by
 simp only [mayB,and_eq_true,decide_eq_true_eq] at h
 obtain ⟨h1,h2,h3,h4⟩:=h
 split at h4
 · cases h4
 rename_i V hs
 simp only [and_eq_true,decide_eq_true_eq] at h4
 obtain ⟨k1,k2⟩:=(scan_iff e e 0 [] V (by simp)).1 hs
 have hA:=scanR_ahead e e [] [] V rfl k1
 have hah:Ahead e:=fun i n hn => (hA i n (by simp) hn).2.2
 refine ⟨h1,h2,h3,h4.2,fun i n hn => (hA i n (by simp) hn).1,fun i n hn => (hA i n (by simp) hn).2.1,hah,?_⟩
 refine scanR_sz e (fun i => sz e (i + 1) (i:Int)) (fun i n hn => ?_) e [] [] V rfl k1 k2 (by simp) rfl (by simp)
 have hil:i < e.length:=by rw [nth_getElem?] at hn; exact (List.getElem?_eq_some_iff.1 hn).1
 have hg:e.getD i nd0 = n:=by have:=getD_nth hil; rw [hn] at this; exact (Option.some.inj this).symm
 show sz e (i + 1) (i:Int) = _
 rw [sz,Int.toNat_natCast,hg]
 congr 1
 refine szL_congr fun k hk => ?_
 have:=hah i n hn k hk
 obtain ⟨j,rfl⟩:∃ j:Nat,k = j:=⟨k.toNat,by omega⟩
 rw [Int.toNat_natCast]
 exact sz_fuel hah i j (by omega) (by omega)
theorem ordL_len {g:Int → List Nd → List Nd} {s:Int → Nat}:∀ (ks:List Int) (o:List Nd) (q:List Int),(∀ k ∈ ks,∀ o,(g k o).length = o.length + s k) → (ordL g ks o q).1.length = o.length + szL s ks ∧ (ordL g ks o q).2.length = q.length + ks.length
 | [],o,q,_ => by simp [ordL,szL]
 | k :: r,o,q,h => by
   have ih:=ordL_len r (g k o) (q ++ [((g k o).length:Int) - 1]) (fun x hx => h x (List.mem_cons_of_mem _ hx))
   rw [ordL,ih.1,ih.2,h k List.mem_cons_self,szL]
   simp; omega
theorem ord_len {e:List Nd}:∀ (f:Nat) (i:Int) (o:List Nd),(ord e f i o).length = o.length + sz e f i
 | 0,i,o => by simp [ord,sz]
 | f + 1,i,o => by
   rw [ord,sz,length_append,(ordL_len _ o [] fun k _ o => ord_len f k o).1,List.length_singleton]; omega
theorem order_eq {e:List Nd} (hM:MayP e):∀ (f i:Nat) (out:List Nd),i < f → i < e.length → out.length + sz e f i ≤ 274877906944 → c60 T.rf out e (i:Nat) = some (ord e f (i:Nat) out)
 | 0,i,out,h,_,_ => by omega
 | f + 1,i,out,h,hi,hb => or60 (by
   have hni:=getD_nth hi
   have hal:=hM.ahead i _ hni
   have hlen:=hM.len
   have hk3:=kids_len (e.getD i nd0)
   have loop:∀ (suf:List Int) (q:List Int) (o:List Nd),(∀ k ∈ suf,0 ≤ k ∧ k < i) → q.length + suf.length ≤ 3 → o.length + szL (sz e f) suf ≤ 274877906944 →
     k161 T.rb o (q ++ suf) e (((q ++ suf).length:Nat):Int) (q.length:Nat) = some ((ordL (ord e f) suf o q).2,(ordL (ord e f) suf o q).1):=by
    intro suf
    induction suf with
    | nil =>
      intro q o _ _ _
      exact ob161 (by simp only [b161,lt_end,lt_self,List.append_nil,cond_false,ordL])
    | cons k suf ih =>
      intro q o hs hq hb
      have hk:=hs k List.mem_cons_self
      simp only [length_cons,szL] at hq hb
      obtain ⟨j,rfl⟩:∃ j:Nat,k = j:=⟨k.toNat,by omega⟩
      have hrec:=order_eq hM f j o (by omega) (by omega) (by omega)
      have hl:=ord_len (e:=e) f j o
      have ih:=ih (q ++ [((ord e f j o).length:Int) - 1]) (ord e f j o) (fun x hx => hs x (List.mem_cons_of_mem _ hx)) (by simp; omega) (by omega)
      have hll:(q ++ [((ord e f j o).length:Int) - 1] ++ suf).length = (q ++ (j:Int) :: suf).length:=by simp
      have hset:setNth (q ++ (j:Int) :: suf) ((q.length:Nat):Int).toNat (((ord e f j o).length:Int) - 1) = q ++ [((ord e f j o).length:Int) - 1] ++ suf:=by
       rw [setNth_set,Int.toNat_natCast,List.set_append_right _ _ (Nat.le_refl _),Nat.sub_self,List.set_cons_zero]; simp
      have hbl:Nat.blt ((q.length:Nat):Int).toNat (q ++ (j:Int) :: suf).length = true:=blt_t (by simp)
      refine ob161 ?_
      simp only [b161,lt_mid,inb_mid,nth_mid,cond_true,bind_some,hrec,hbl,wr_pred (show (ord e f (j:Int) o).length < 4611686018427387904 by omega),hset,next_mid q ((j:Nat):Int) (by omega)]
      rw [ordL,← hll]
      have e1:(q ++ [((j:Nat):Int)]).length = (q ++ [((ord e f j o).length:Int) - 1]).length:=by simp
      rw [e1]
      exact ih
   rw [sz,Int.toNat_natCast] at hb
   have hl:=loop (kids (e.getD i nd0)) [] out hal (by simpa using hk3) (by omega)
   simp only [List.nil_append,length_nil] at hl
   rw [show ((0:Nat):Int) = (0:Int) from rfl] at hl
   have hol:=(ordL_len (kids (e.getD i nd0)) out [] fun k _ o => ord_len (e:=e) f k o).1
   simp only [r60,inb_nat,dt hi,cond_true,Int.toNat_natCast,hni,bind_some,kids_eq,hl,with_eq]
   rw [ble_most (by omega)]
   simp only [Bool.and_true,cond_true,ord,Int.toNat_natCast])
theorem refOrder_eq {e:List Nd} (hM:MayP e):∀ (f i:Nat) (out:List Nd),i < f → i < e.length → out.length + sz e f i ≤ 274877906944 → c114 T.rf out e (i:Nat) = some (ord e f (i:Nat) out)
 | 0,i,out,h,_,_ => by omega
 | f + 1,i,out,h,hi,hb => or114 (by
   have hni:=getD_nth hi
   have hal:=hM.ahead i _ hni
   have hlen:=hM.len
   have hk3:=kids_len (e.getD i nd0)
   have loop:∀ (suf pre:List Int) (q:List Int) (o:List Nd),(∀ k ∈ suf,0 ≤ k ∧ k < i) → pre.length + suf.length ≤ 3 → q.length + suf.length ≤ 3 → o.length + szL (sz e f) suf ≤ 274877906944 →
     k400 T.rb o (pre ++ suf) q e (pre.length:Nat) = some (pre ++ suf,(ordL (ord e f) suf o q).1,(ordL (ord e f) suf o q).2):=by
    intro suf
    induction suf with
    | nil =>
      intro pre q o _ _ _ _
      exact ob400 (by simp only [b400,lt_end,lt_self,List.append_nil,cond_false,ordL])
    | cons k suf ih =>
      intro pre q o hs hp hq hb
      have hk:=hs k List.mem_cons_self
      simp only [length_cons,szL] at hp hq hb
      obtain ⟨j,rfl⟩:∃ j:Nat,k = j:=⟨k.toNat,by omega⟩
      have hrec:=refOrder_eq hM f j o (by omega) (by omega) (by omega)
      have hl:=ord_len (e:=e) f j o
      have ih:=ih (pre ++ [(j:Int)]) (q ++ [((ord e f j o).length:Int) - 1]) (ord e f j o) (fun x hx => hs x (List.mem_cons_of_mem _ hx)) (by simp; omega) (by simp; omega) (by omega)
      simp only [List.append_assoc,List.singleton_append] at ih
      refine ob400 ?_
      simp only [b400,lt_mid,inb_mid,nth_mid,cond_true,bind_some,hrec,ble_most (show q.length + 1 ≤ 274877906944 by omega),Bool.and_true,wr_pred (show (ord e f (j:Int) o).length < 4611686018427387904 by omega),next_mid pre ((j:Nat):Int) (by omega)]
      rw [ordL]
      simpa only [List.append_assoc] using ih
   rw [sz,Int.toNat_natCast] at hb
   have hl:=loop (kids (e.getD i nd0)) [] [] out hal (by simpa using hk3) (by simpa using hk3) (by omega)
   simp only [List.nil_append,length_nil] at hl
   rw [show ((0:Nat):Int) = (0:Int) from rfl] at hl
   have hol:=(ordL_len (kids (e.getD i nd0)) out [] fun k _ o => ord_len (e:=e) f k o).1
   simp only [r114,inb_nat,dt hi,cond_true,Int.toNat_natCast,hni,bind_some,refKids_eq,hl,aim_eq]
   rw [ble_most (by omega)]
   simp only [Bool.and_true,cond_true,ord,Int.toNat_natCast])
def subE (e:List Nd) (i:Int):List Nd:=if 0 ≤ i ∧ i < e.length ∧ mayB e = true then ord e (i.toNat + 1) i [] else []
theorem Sub_eq {e:List Nd} (h:e.length ≤ 1000000) (i:Int):c59 T.rf e i = some (subE e i):=or59 (by
 simp only [r59,subE]
 by_cases h1:0 ≤ i
 case neg => rw [dt (show i < 0 by omega),cond_true,if_neg (by omega)]
 rw [df (show ¬ i < 0 by omega),cond_false]
 by_cases h2:i < e.length
 case neg => rw [dt (show i ≥ e.length by omega),cond_true,if_neg (by omega)]
 rw [df (show ¬ i ≥ e.length by omega),cond_false,May_eq h,bind_some]
 cases hm:mayB e
 · rw [if_neg (by intro hh; cases hh.2.2)]; rfl
 · rw [if_pos ⟨h1,h2,rfl⟩]
   have hM:=may_P hm
   obtain ⟨j,rfl⟩:∃ j:Nat,i = j:=⟨i.toNat,by omega⟩
   have:=hM.small j (by omega)
   have hl:=hM.len
   rw [order_eq hM (j + 1) j [] (by omega) (by omega) (by simp; omega),Int.toNat_natCast]; rfl)
theorem refSub_eq {e:List Nd} (h:e.length ≤ 1000000) (i:Int):c113 T.rf e i = some (subE e i):=or113 (by
 simp only [r113,subE,refMay_eq h,bind_some]
 cases hm:mayB e
 · rw [if_neg (by intro hh; cases hh.2.2)]; rfl
 rw [Bool.not_true,cond_false]
 by_cases h1:0 ≤ i
 case neg => rw [dt (show i < 0 by omega),cond_true,if_neg (by omega)]
 rw [df (show ¬ i < 0 by omega),cond_false]
 by_cases h2:i < e.length
 case neg => rw [dt (show i ≥ e.length by omega),cond_true,if_neg (by omega)]
 rw [df (show ¬ i ≥ e.length by omega),cond_false,if_pos ⟨h1,h2,rfl⟩]
 have hM:=may_P hm
 obtain ⟨j,rfl⟩:∃ j:Nat,i = j:=⟨i.toNat,by omega⟩
 have:=hM.small j (by omega)
 have hl:=hM.len
 rw [refOrder_eq hM (j + 1) j [] (by omega) (by omega) (by simp; omega),Int.toNat_natCast]; rfl)
theorem subE_len {e:List Nd} (i:Int):(subE e i).length ≤ 5001:=by
 unfold subE
 split
 · rename_i h
   have hM:=may_P h.2.2
   obtain ⟨j,rfl⟩:∃ j:Nat,i = j:=⟨i.toNat,by omega⟩
   have:=hM.small j (by omega)
   have hl:=hM.len
   rw [ord_len,Int.toNat_natCast]; simp; omega
 · simp
def varsL:List Nd → List (List UInt8) → List (List UInt8)
 | [],l => l
 | n :: r,l => if n.1 = 3 ∧ n.2.2.2.2.2 ∉ l then varsL r (l ++ [n.2.2.2.2.2]) else varsL r l
theorem pred_i {α:Type} {l:List α} (h:l.length ≤ 1000000):IntKind.i64.wrap ((l.length:Int) - 1) = (l.length:Int) - 1:=wr (by omega)
def norm (e:List Nd):List Nd:=subE e ((e.length:Int) - 1)
def vars (e:List Nd):List (List UInt8):=varsL (norm e) []
theorem Norm_eq {e:List Nd} (h:e.length ≤ 1000000):c112 T.rf e = some (norm e):=or112 (by
 simp only [r112,pred_i h,refSub_eq h,bind_some]; rfl)
inductive Tr where
 | mk (b:Nd) (ks:List Tr)
mutual
def Tr.size:Tr → Nat
 | .mk b ks => sizes ks + 1
def sizes:List Tr → Nat
 | [] => 0
 | t :: r => t.size + sizes r
end
def roots:List Tr → Nat → List Int
 | [],_ => []
 | t :: r,o => ((o + t.size - 1:Nat):Int) :: roots r (o + t.size)
mutual
def flat:Tr → Nat → List Nd
 | .mk b ks,o => flats ks o ++ [aim b (roots ks o)]
def flats:List Tr → Nat → List Nd
 | [],_ => []
 | t :: r,o => flat t o ++ flats r (o + t.size)
end
mutual
def dep:Tr → Int
 | .mk b ks => deps ks 0 + 1
def deps:List Tr → Int → Int
 | [],m => m
 | t :: r,m => deps r (if dep t > m then dep t else m)
end
def Tr.op:Tr → Int
 | .mk b _ => b.1
def blank (n:Nd):Nd:=(n.1,-1,-1,-1,n.2.2.2.2)
mutual
def Emb (e:List Nd):Nat → Tr → Prop
 | i,.mk b ks => ∃ n,nth e i = some n ∧ b = blank n ∧ n = aim b (kids n) ∧ Embs e i (kids n) ks
def Embs (e:List Nd) (i:Nat):List Int → List Tr → Prop
 | [],[] => True
 | k :: r,t :: ts => 0 ≤ k ∧ k < i ∧ Emb e k.toNat t ∧ Embs e i r ts
 | _,_ => False
end
theorem Tr.size_pos:∀ t:Tr,0 < t.size
 | .mk b ks => by rw [Tr.size]; omega
theorem roots_len:∀ (ks:List Tr) (o:Nat),(roots ks o).length = ks.length
 | [],_ => rfl
 | t :: r,o => by simp [roots,roots_len r]
mutual
theorem flat_len:∀ (t:Tr) (o:Nat),(flat t o).length = t.size
 | .mk b ks,o => by rw [flat,length_append,flats_len ks o,Tr.size]; simp
theorem flats_len:∀ (ks:List Tr) (o:Nat),(flats ks o).length = sizes ks
 | [],o => rfl
 | t :: r,o => by rw [flats,length_append,flat_len t o,flats_len r _,sizes]
end
theorem Embs_len {e:List Nd} {i:Nat}:∀ {l:List Int} {ts:List Tr},Embs e i l ts → l.length = ts.length
 | [],[],_ => rfl
 | k :: r,t :: ts,⟨_,_,_,h⟩ => by simp [Embs_len h]
 | [],_ :: _,h => by simp [Embs] at h
 | _ :: _,[],h => by simp [Embs] at h
theorem aim_aim (b:Nd):∀ (l m:List Int),l.length = m.length → aim (aim b l) m = aim b m
 | [],[],_ => rfl
 | [a],[x],_ => rfl
 | [a,b'],[x,y],_ => by
   by_cases h:b.1 = 28
   · simp [aim,h]
   · simp [aim,h]
 | a :: b' :: c :: r,x :: y :: z :: s,_ => rfl
 | [],_ :: _,h => by simp at h
 | [_],[],h => by simp at h
 | [_],_ :: _ :: _,h => by simp at h
 | [_,_],[],h => by simp at h
 | [_,_],[_],h => by simp at h
 | [_,_],_ :: _ :: _ :: _,h => by simp at h
 | _ :: _ :: _ :: _,[],h => by simp at h
 | _ :: _ :: _ :: _,[_],h => by simp at h
 | _ :: _ :: _ :: _,[_,_],h => by simp at h
theorem aim_op (b:Nd) (l:List Int):(aim b l).1 = b.1:=by
 match l with
 | [] => rfl
 | [a] => rfl
 | [a,c] => by_cases h:b.1 = 28 <;> simp [aim,h]
 | _ :: _ :: _ :: _ => rfl
theorem aim_rest (b:Nd) (l:List Int):(aim b l).2.2.2.2 = b.2.2.2.2:=by
 match l with
 | [] => rfl
 | [a] => rfl
 | [a,c] => by_cases h:b.1 = 28 <;> simp [aim,h]
 | _ :: _ :: _ :: _ => rfl
theorem blank_aim (b:Nd) (l:List Int):blank (aim b l) = blank b:=by
 simp only [blank,aim_op,aim_rest]
theorem may_emb {e:List Nd} (hM:MayP e):∀ (m i:Nat),i < m → i < e.length → ∃ t,Emb e i t
 | 0,i,h,_ => by omega
 | m + 1,i,h,hi => by
   have hni:=getD_nth hi
   have hal:=hM.ahead i _ hni
   have hno:=hM.node i _ hni
   have each:∀ l:List Int,(∀ k ∈ l,0 ≤ k ∧ k < i) → ∃ ts,Embs e i l ts:=by
    intro l
    induction l with
    | nil => exact fun _ => ⟨[],trivial⟩
    | cons k l ih =>
      intro hl
      obtain ⟨ts,hts⟩:=ih fun q hq => hl q (List.mem_cons_of_mem _ hq)
      have hk:=hl k List.mem_cons_self
      obtain ⟨t,ht⟩:=may_emb hM m k.toNat (by omega) (by omega)
      exact ⟨t :: ts,hk.1,hk.2,ht,hts⟩
   obtain ⟨ts,hts⟩:=each _ hal
   have:=(of_decide_eq_true hno).2.2.1
   exact ⟨.mk (blank (e.getD i nd0)) ts,_,hni,rfl,this,hts⟩
mutual
theorem ord_emb (e:List Nd):∀ (t:Tr) (f i:Nat) (o:List Nd),Emb e i t → i < f → ord e f (i:Nat) o = o ++ flat t o.length
 | .mk b ks,0,i,o,_,h => by omega
 | .mk b ks,f + 1,i,o,⟨n,hn,hb,hna,hks⟩,h => by
   have hil:i < e.length:=by rw [nth_getElem?] at hn; exact (List.getElem?_eq_some_iff.1 hn).1
   have hg:e.getD i nd0 = n:=by have:=getD_nth hil; rw [hn] at this; exact (Option.some.inj this).symm
   rw [ord,Int.toNat_natCast,hg,flat]
   have:=ordL_emb e ks f i (kids n) o [] hks (by omega)
   rw [this]
   simp only [List.nil_append,List.append_assoc]
   congr 2
   have hl:=Embs_len hks
   have e1:aim n (roots ks o.length) = aim b (roots ks o.length):=by
    conv => lhs; rw [hna]
    exact aim_aim b _ _ (by rw [roots_len,hl])
   rw [e1]
theorem ordL_emb (e:List Nd):∀ (ts:List Tr) (f i:Nat) (l:List Int) (o:List Nd) (q:List Int),Embs e i l ts → i ≤ f → ordL (ord e f) l o q = (o ++ flats ts o.length,q ++ roots ts o.length)
 | [],f,i,l,o,q,h,hf => by
   cases l with
   | nil => simp [ordL,flats,roots]
   | cons k l => simp [Embs] at h
 | t :: ts,f,i,l,o,q,h,hf => by
   cases l with
   | nil => simp [Embs] at h
   | cons k l =>
     obtain ⟨h1,h2,h3,h4⟩:=h
     have hk:((k.toNat:Nat):Int) = k:=by omega
     have ho:=ord_emb e t f k.toNat o h3 (by omega)
     rw [hk] at ho
     rw [ordL,ho,ordL_emb e ts f i l _ _ h4 hf]
     have hsz:=t.size_pos
     have hl:(o ++ flat t o.length).length = o.length + t.size:=by rw [length_append,flat_len]
     rw [hl,flats,roots]
     simp only [List.append_assoc,List.singleton_append]
     congr 3
     omega
end
theorem subE_flat {e:List Nd} {i:Nat} {t:Tr} (hM:mayB e = true) (hi:i < e.length) (h:Emb e i t):subE e (i:Nat) = flat t 0:=by
 unfold subE
 rw [if_pos ⟨by omega,by omega,hM⟩,Int.toNat_natCast,ord_emb e t (i + 1) i [] h (by omega)]
 simp
def Arity (b:Nd) (m:Nat):Prop:=∀ l:List Int,l.length = m → (∀ x ∈ l,x ≠ -1) → kids (aim b l) = l
def argT (b:Nd) (m a:Nat) (op:Int):Bool:=decide (op = 28) == (decide (b.1 = 27) || (decide (b.1 = 28) && (decide (m = 2) && decide (a = 0))))
def argsT (b:Nd) (m:Nat):List Tr → Nat → Bool
 | [],_ => true
 | t :: r,a => argT b m a t.op && argsT b m r (a + 1)
mutual
def Valid:Tr → Prop
 | .mk b ks => b = blank b ∧ Arity b ks.length ∧ ks.length ≤ 3 ∧ (1 ≤ b.1 ∧ b.1 ≤ 28 ∧ 0 ≤ b.2.2.2.2.1 ∧ b.2.2.2.2.1 ≤ mostN b.1 ∧ (b.2.2.2.2.2 ≠ [] ↔ (b.1 = 3 ∨ b.1 = 27))) ∧ argsT b ks.length ks 0 = true ∧ Valids ks
def Valids:List Tr → Prop
 | [] => True
 | t :: r => Valid t ∧ Valids r
end
theorem kids_aim (n:Nd) (h:n = aim (blank n) (kids n)) (hneg:∀ x ∈ kids n,x ≠ -1):Arity (blank n) (kids n).length:=by
 intro l hl hx
 obtain ⟨op,a,b,c,k,nm⟩:=n
 by_cases h26:op = 26
 · subst h26
   have hk:kids (26,a,b,c,k,nm) = [a,b,c]:=by simp [kids]
   rw [hk] at hl
   match l,hl with
   | [x,y,z],_ => simp [blank,aim,kids]
 by_cases h28:op = 28
 · subst h28
   by_cases hb:b = -1
   · have hk:kids (28,a,b,c,k,nm) = [a]:=by subst hb; simp [kids]
     rw [hk] at hl
     match l,hl with
     | [x],_ => simp [blank,aim,kids]
   · have hk:kids (28,a,b,c,k,nm) = [b,a]:=by simp [kids,hb]
     rw [hk] at hl
     match l,hl with
     | [x,y],_ =>
       have:x ≠ -1:=hx x (by simp)
       simp [blank,aim,kids,this]
 by_cases h27:op = 27
 · subst h27
   by_cases ha:a = -1
   · have hk:kids (27,a,b,c,k,nm) = []:=by subst ha; simp [kids]
     rw [hk] at hl
     match l,hl with
     | [],_ => simp [blank,aim,kids]
   · have hk:kids (27,a,b,c,k,nm) = [a]:=by simp [kids,ha]
     rw [hk] at hl
     match l,hl with
     | [x],_ =>
       have:x ≠ -1:=hx x (by simp)
       simp [blank,aim,kids,this]
 by_cases h6:6 ≤ op ∧ op ≤ 20
 · have hk:kids (op,a,b,c,k,nm) = [a,b]:=by
    simp only [kids]; rw [if_neg h26,if_neg (fun h => h28 h.1),if_neg (fun h => h27 h.1),if_pos h6]
   rw [hk] at hl
   match l,hl with
   | [x,y],_ =>
     have ha:aim (blank (op,a,b,c,k,nm)) [x,y] = (op,x,y,-1,k,nm):=by
      show (if op = 28 then ((op,y,x,-1,k,nm):Nd) else (op,x,y,-1,k,nm)) = _
      rw [if_neg h28]
     rw [ha]
     simp only [kids]
     rw [if_neg h26,if_neg (fun h => h28 h.1),if_neg (fun h => h27 h.1),if_pos h6]
 by_cases h4:op = 4 ∨ op = 5 ∨ (21 ≤ op ∧ op ≤ 28)
 · have hk:kids (op,a,b,c,k,nm) = [a]:=by
    simp only [kids]; rw [if_neg h26,if_neg (fun h => h28 h.1),if_neg (fun h => h27 h.1),if_neg h6,if_pos h4]
   rw [hk] at hl
   match l,hl with
   | [x],_ =>
     show kids (op,x,-1,-1,k,nm) = [x]
     simp only [kids]
     rw [if_neg h26,if_neg (fun h => h28 h.1),if_neg (fun h => h27 h.1),if_neg h6,if_pos h4]
 · have hk:kids (op,a,b,c,k,nm) = []:=by
    simp only [kids]; rw [if_neg h26,if_neg (fun h => h28 h.1),if_neg (fun h => h27 h.1),if_neg h6,if_neg h4]
   rw [hk] at hl
   match l,hl with
   | [],_ =>
     show kids (op,-1,-1,-1,k,nm) = []
     simp only [kids]
     rw [if_neg h26,if_neg (fun h => h28 h.1),if_neg (fun h => h27 h.1),if_neg h6,if_neg h4]
theorem emb_lt {e:List Nd} {i:Nat}:∀ {t:Tr},Emb e i t → i < e.length
 | .mk b ks,⟨n,hn,_⟩ => by rw [nth_getElem?] at hn; exact (List.getElem?_eq_some_iff.1 hn).1
theorem opAt_of {e:List Nd} {i:Nat} {n:Nd} (h:nth e i = some n):opAt e i = n.1:=by
 rw [nth_getElem?] at h
 rw [opAt,List.getD_eq_getElem?_getD,h]; rfl
theorem emb_op {e:List Nd} {i:Nat}:∀ {t:Tr},Emb e i t → opAt e i = t.op
 | .mk b ks,⟨n,hn,hb,_⟩ => by rw [opAt_of hn,Tr.op,hb]; rfl
theorem argB_T {e:List Nd} {n b:Nd} {a:Nat} {k:Int} {t:Tr} (hb:b = blank n) (ht:Emb e k.toNat t):argB e n a k = argT b (kids n).length a t.op:=by
 unfold argB argT
 rw [emb_op ht,show b.1 = n.1 by rw [hb]; rfl]
 by_cases h28:n.1 = 28
 · have:=kids28 n h28
   by_cases hb':n.2.2.1 = -1
   · rw [df (show ¬ n.2.2.1 ≠ -1 from fun h => h hb'),df (show ¬ (kids n).length = 2 from fun h => this.1 h hb')]
   · rw [dt (show n.2.2.1 ≠ -1 from hb'),dt (this.2 hb')]
 · rw [df h28]; simp
theorem argsB_T {e:List Nd} {n b:Nd} {i:Nat} (hb:b = blank n):∀ (l:List Int) (ts:List Tr) (a:Nat),Embs e i l ts → argsB e n l a = argsT b (kids n).length ts a
 | [],[],a,_ => rfl
 | k :: l,t :: ts,a,⟨_,_,h3,h4⟩ => by rw [argsB,argsT,argB_T hb h3,argsB_T hb l ts (a + 1) h4]
 | [],_ :: _,a,h => by simp [Embs] at h
 | _ :: _,[],a,h => by simp [Embs] at h
mutual
theorem valid_emb {e:List Nd} (hM:MayP e):∀ (t:Tr) (i:Nat),Emb e i t → Valid t
 | .mk b ks,i,⟨n,hn,hb,hna,hks⟩ => by
   have hno:=of_decide_eq_true (hM.node i n hn)
   have hal:=hM.ahead i n hn
   have hl:=Embs_len hks
   have hk3:=kids_len n
   have hA:=kids_aim n (by rw [← hb]; exact hna) (fun x hx => by have:=hal x hx; omega)
   rw [Valid,← hl]
   refine ⟨?_,by rw [hb]; exact hA,hk3,?_,?_,valids_emb hM ks i (kids n) hks⟩
   · rw [hb]; rfl
   · rw [hb]; exact ⟨hno.1,hno.2.1,hno.2.2.2.1,hno.2.2.2.2.1,hno.2.2.2.2.2⟩
   · rw [← argsB_T (e:=e) (i:=i) hb (kids n) ks 0 hks]; exact hM.args i n hn
theorem valids_emb {e:List Nd} (hM:MayP e):∀ (ts:List Tr) (i:Nat) (l:List Int),Embs e i l ts → Valids ts
 | [],i,l,_ => trivial
 | t :: ts,i,l,h => by
   cases l with
   | nil => simp [Embs] at h
   | cons k l => obtain ⟨_,_,h3,h4⟩:=h; exact ⟨valid_emb hM t _ h3,valids_emb hM ts i l h4⟩
end
theorem roots_ge:∀ (ks:List Tr) (o:Nat) (x:Int),x ∈ roots ks o → (o:Int) ≤ x ∧ x < o + sizes ks
 | [],o,x,h => by simp [roots] at h
 | t :: r,o,x,h => by
   have hs:=t.size_pos
   rw [roots] at h
   rw [sizes]
   rcases List.mem_cons.1 h with h | h
   · subst h; omega
   · have:=roots_ge r (o + t.size) x h; omega
mutual
theorem emb_flat:∀ (t:Tr) (pre suf:List Nd),Valid t → Emb (pre ++ (flat t pre.length ++ suf)) (pre.length + t.size - 1) t
 | .mk b ks,pre,suf,⟨h1,h2,h3,h4,h5,h6⟩ => by
   have hr:=roots_len ks pre.length
   have hk:kids (aim b (roots ks pre.length)) = roots ks pre.length:=h2 _ hr fun x hx => by have:=roots_ge ks _ x hx; omega
   have hE:=embs_flat ks pre ([aim b (roots ks pre.length)] ++ suf) (pre.length + sizes ks) h6 (Nat.le_refl _)
   refine ⟨aim b (roots ks pre.length),?_,?_,by rw [hk],?_⟩
   · rw [flat,Tr.size,nth_getElem?,List.getElem?_append_right (by omega),List.append_assoc,List.getElem?_append_right (by rw [flats_len]; omega),flats_len]
     rw [show pre.length + (sizes ks + 1) - 1 - pre.length - sizes ks = 0 by omega]; rfl
   · rw [blank_aim]; exact h1
   · rw [hk,flat,Tr.size,List.append_assoc,show pre.length + (sizes ks + 1) - 1 = pre.length + sizes ks by omega]
     exact hE
theorem embs_flat:∀ (ks:List Tr) (pre suf:List Nd) (i:Nat),Valids ks → pre.length + sizes ks ≤ i → Embs (pre ++ (flats ks pre.length ++ suf)) i (roots ks pre.length) ks
 | [],pre,suf,i,_,_ => trivial
 | t :: r,pre,suf,i,⟨h1,h2⟩,hi => by
   have hs:=t.size_pos
   rw [sizes] at hi
   have h3:=emb_flat t pre (flats r (pre.length + t.size) ++ suf) h1
   have h4:=embs_flat r (pre ++ flat t pre.length) suf i h2 (by rw [length_append,flat_len]; omega)
   rw [length_append,flat_len] at h4
   have e1:(pre ++ flat t pre.length) ++ (flats r (pre.length + t.size) ++ suf) = pre ++ (flats (t :: r) pre.length ++ suf):=by rw [flats]; simp
   have e2:pre ++ (flat t pre.length ++ (flats r (pre.length + t.size) ++ suf)) = pre ++ (flats (t :: r) pre.length ++ suf):=by rw [flats]; simp
   rw [e1] at h4
   rw [e2] at h3
   refine ⟨by omega,by omega,?_,h4⟩
   rw [Int.toNat_natCast]
   exact h3
end
theorem depL_take:∀ (suf:List Nd) (acc:List Int),(depL suf acc).take acc.length = acc
 | [],acc => by simp [depL]
 | n :: r,acc => by
   have:=depL_take r (acc ++ [deepest acc (kids n) 0 + 1])
   rw [depL]
   have h2:=congrArg (List.take acc.length) this
   rw [List.take_take] at h2
   rw [show min acc.length (acc ++ [deepest acc (kids n) 0 + 1]).length = acc.length by simp] at h2
   rw [h2]; simp
theorem depL_get:∀ (suf:List Nd) (acc:List Int) (j:Nat) (n:Nd),nth suf j = some n → (depL suf acc).getD (acc.length + j) 0 = deepest ((depL suf acc).take (acc.length + j)) (kids n) 0 + 1
 | [],acc,j,n,h => by simp [nth] at h
 | m :: r,acc,0,n,h => by
   simp only [nth,Option.some.injEq] at h
   subst h
   rw [depL]
   have ht:=depL_take r (acc ++ [deepest acc (kids m) 0 + 1])
   have hl:(acc ++ [deepest acc (kids m) 0 + 1]).length = acc.length + 1:=by simp
   rw [hl] at ht
   have h1:(depL r (acc ++ [deepest acc (kids m) 0 + 1])).take acc.length = acc:=by
    have h2:=congrArg (List.take acc.length) ht
    rw [List.take_take] at h2
    rw [show min acc.length (acc.length + 1) = acc.length by omega] at h2
    rw [h2]; simp
   have h3:(depL r (acc ++ [deepest acc (kids m) 0 + 1]))[acc.length]? = some (deepest acc (kids m) 0 + 1):=by
    have h4:=congrArg (fun l => l[acc.length]?) ht
    simp only [List.getElem?_take] at h4
    rw [if_pos (by omega)] at h4
    rw [h4]; simp
   rw [Nat.add_zero,h1,List.getD_eq_getElem?_getD,h3]; rfl
 | m :: r,acc,j + 1,n,h => by
   have ih:=depL_get r (acc ++ [deepest acc (kids m) 0 + 1]) j n (by simpa [nth] using h)
   have hl:(acc ++ [deepest acc (kids m) 0 + 1]).length + j = acc.length + (j + 1):=by simp; omega
   rw [hl] at ih
   rw [depL]; exact ih
mutual
theorem dep_emb {e:List Nd}:∀ (t:Tr) (i:Nat),Emb e i t → (depL e []).getD i 0 = dep t
 | .mk b ks,i,⟨n,hn,hb,hna,hks⟩ => by
   have:=depL_get e [] i n hn
   rw [length_nil,Nat.zero_add] at this
   have hil:i < e.length:=by rw [nth_getElem?] at hn; exact (List.getElem?_eq_some_iff.1 hn).1
   rw [this,dep,deps_emb ks i (kids n) 0 hks hil]
theorem deps_emb {e:List Nd}:∀ (ts:List Tr) (i:Nat) (l:List Int) (m:Int),Embs e i l ts → i < e.length → deepest ((depL e []).take i) l m = deps ts m
 | [],i,l,m,h,hi => by
   cases l with
   | nil => rfl
   | cons k l => simp [Embs] at h
 | t :: ts,i,l,m,h,hi => by
   cases l with
   | nil => simp [Embs] at h
   | cons k l =>
     obtain ⟨h1,h2,h3,h4⟩:=h
     have hlen:(depL e []).length = e.length:=by rw [depL_len]; simp
     have hk:k < ((depL e []).take i).length:=by rw [List.length_take,hlen]; omega
     have hg:((depL e []).take i).getD k.toNat 0 = dep t:=by
      rw [← dep_emb t k.toNat h3,List.getD_eq_getElem?_getD,List.getD_eq_getElem?_getD,List.getElem?_take,if_pos (by omega)]
     rw [deepest,if_pos ⟨h1,hk⟩,hg,deps,deps_emb ts i l _ h4 hi]
end
theorem depth_emb {e:List Nd} {t:Tr} (h:Emb e (e.length - 1) t):depth e = dep t:=by
 have hl:=emb_lt h
 have hlen:(depL e []).length = e.length:=by rw [depL_len]; simp
 rw [← dep_emb t _ h,depth,List.getLastD_eq_getLast?,List.getLast?_eq_getElem?,List.getD_eq_getElem?_getD,hlen]
mutual
def wT:Tr → Nat → List Nat
 | .mk b ks,o => wTs ks o ++ (roots ks o).map Int.toNat
def wTs:List Tr → Nat → List Nat
 | [],_ => []
 | t :: r,o => wT t o ++ wTs r (o + t.size)
end
theorem scanR_app (e:List Nd):∀ (a b:List Nd) (i:Nat) (V:List Nat),scanR e (a ++ b) i V = (scanR e a i V).bind fun V' => scanR e b (i + a.length) V'
 | [],b,i,V => rfl
 | n :: a,b,i,V => by
   rw [List.cons_append,scanR,scanR]
   split
   · rw [scanR_app e a b]
     have:i + 1 + a.length = i + (n :: a).length:=by simp; omega
     rw [this]
   · rfl
theorem node_aim {b:Nd} {l:List Int} (h1:b = blank b) (hA:kids (aim b l) = l) (h4:1 ≤ b.1 ∧ b.1 ≤ 28 ∧ 0 ≤ b.2.2.2.2.1 ∧ b.2.2.2.2.1 ≤ mostN b.1 ∧ (b.2.2.2.2.2 ≠ [] ↔ (b.1 = 3 ∨ b.1 = 27))):nodeB (aim b l) = true:=by
 unfold nodeB
 have hb:((aim b l).1,(-1:Int),(-1:Int),(-1:Int),(aim b l).2.2.2.2) = b:=by
  have:=blank_aim b l
  rw [← h1] at this
  exact this
 rw [hb,hA,aim_op,aim_rest]
 exact dt ⟨h4.1,h4.2.1,rfl,h4.2.2.1,h4.2.2.2.1,h4.2.2.2.2⟩
mutual
theorem scanR_flat:∀ (t:Tr) (pre suf:List Nd) (V:List Nat),Valid t → scanR (pre ++ (flat t pre.length ++ suf)) (flat t pre.length) pre.length V = some (V ++ wT t pre.length)
 | .mk b ks,pre,suf,V,⟨h1,h2,h3,h4,h5,h6⟩ => by
   have hr:=roots_len ks pre.length
   have hk:kids (aim b (roots ks pre.length)) = roots ks pre.length:=h2 _ hr fun x hx => by have:=roots_ge ks _ x hx; omega
   have hE:=embs_flat ks pre ([aim b (roots ks pre.length)] ++ suf) (pre.length + sizes ks) h6 (Nat.le_refl _)
   have hS:=scanR_flats ks pre ([aim b (roots ks pre.length)] ++ suf) V h6
   have hbl:b = blank (aim b (roots ks pre.length)):=by rw [blank_aim]; exact h1
   rw [flat,List.append_assoc,scanR_app,hS,bind_some,flats_len,scanR]
   have hargs:=argsB_T (e:=pre ++ (flats ks pre.length ++ ([aim b (roots ks pre.length)] ++ suf))) hbl (roots ks pre.length) ks 0 hE
   rw [hk,hr] at hargs
   have hr2:rangeB (pre.length + sizes ks) (kids (aim b (roots ks pre.length))) = true:=by
    rw [hk]
    refine List.all_eq_true.2 fun x hx => dt ?_
    have:=roots_ge ks _ x hx
    omega
   rw [if_pos ⟨node_aim h1 hk h4,hr2,by rw [hk,hargs,h5]⟩]
   rw [hk,scanR,wT,List.append_assoc]
theorem scanR_flats:∀ (ks:List Tr) (pre suf:List Nd) (V:List Nat),Valids ks → scanR (pre ++ (flats ks pre.length ++ suf)) (flats ks pre.length) pre.length V = some (V ++ wTs ks pre.length)
 | [],pre,suf,V,_ => by simp [flats,scanR,wTs]
 | t :: r,pre,suf,V,⟨h1,h2⟩ => by
   have h3:=scanR_flat t pre (flats r (pre.length + t.size) ++ suf) V h1
   have h4:=scanR_flats r (pre ++ flat t pre.length) suf (V ++ wT t pre.length) h2
   rw [length_append,flat_len] at h4
   have e1:(pre ++ flat t pre.length) ++ (flats r (pre.length + t.size) ++ suf) = pre ++ (flats (t :: r) pre.length ++ suf):=by rw [flats]; simp
   have e2:pre ++ (flat t pre.length ++ (flats r (pre.length + t.size) ++ suf)) = pre ++ (flats (t :: r) pre.length ++ suf):=by rw [flats]; simp
   rw [e1] at h4
   rw [e2] at h3
   conv => lhs; arg 2; rw [flats]
   rw [scanR_app,h3,bind_some,flat_len,h4,wTs,List.append_assoc]
end
mutual
theorem count_wT (x:Nat):∀ (t:Tr) (o:Nat),(wT t o).count x = if o ≤ x ∧ x + 1 < o + t.size then 1 else 0
 | .mk b ks,o => by
   have:=count_wTs x ks o
   rw [wT,List.count_append,this,Tr.size]
   by_cases h:o ≤ x ∧ x < o + sizes ks
   · rw [if_pos h,if_pos (by omega)]
   · rw [if_neg h,if_neg (by omega)]
theorem count_wTs (x:Nat):∀ (ks:List Tr) (o:Nat),(wTs ks o).count x + ((roots ks o).map Int.toNat).count x = if o ≤ x ∧ x < o + sizes ks then 1 else 0
 | [],o => by rw [if_neg (by rw [sizes]; omega)]; rfl
 | t :: r,o => by
   have h1:=count_wT x t o
   have h2:=count_wTs x r (o + t.size)
   have hs:=t.size_pos
   rw [wTs,roots,sizes,List.count_append,List.map_cons,List.count_cons,Int.toNat_natCast,h1]
   by_cases hx:o + t.size - 1 = x
   · have e:((o + t.size - 1 == x) = true):=beq_iff_eq.2 hx
     rw [if_pos e,if_neg (by omega),if_pos (by omega)]
     rw [if_neg (by omega)] at h2
     omega
   · have e:¬ ((o + t.size - 1 == x) = true):=fun h => hx (beq_iff_eq.1 h)
     rw [if_neg e]
     by_cases h3:o ≤ x ∧ x + 1 < o + t.size
     · rw [if_neg (by omega)] at h2
       rw [if_pos h3,if_pos (by omega)]; omega
     · rw [if_neg h3]
       by_cases h4:o + t.size ≤ x ∧ x < o + t.size + sizes r
       · rw [if_pos h4] at h2
         rw [if_pos (by omega)]; omega
       · rw [if_neg h4] at h2
         rw [if_neg (by omega)]; omega
end
theorem may_flat {t:Tr} (hv:Valid t):mayB (flat t 0) = (decide (t.size ≤ 5000) && (decide (t.op ≠ 28) && decide (dep t ≤ 40))):=by
 have hs:=t.size_pos
 have hlen:=flat_len t 0
 have hne:flat t 0 ≠ []:=fun h => by rw [h] at hlen; simp at hlen; omega
 have hE:=emb_flat t [] [] hv
 simp only [List.nil_append,List.append_nil,length_nil,Nat.zero_add] at hE
 have hS:=scanR_flat t [] [] [] hv
 simp only [List.nil_append,List.append_nil,length_nil] at hS
 have hc:=fun x => count_wT x t 0
 have hnd:(wT t 0).Nodup:=(nod_count _).2 fun j => by rw [hc j]; split <;> omega
 have hsc:=(scan_iff (flat t 0) (flat t 0) 0 [] (wT t 0) (by simp)).2 ⟨hS,hnd⟩
 have hall:((List.range (t.size - 1)).all fun j => decide (j ∈ wT t 0)) = true:=List.all_eq_true.2 fun j hj => by
  have h1:=List.mem_range.1 hj
  have:=hc j
  rw [if_pos (by omega)] at this
  exact dt (List.count_pos_iff.1 (by omega))
 have hE':Emb (flat t 0) ((flat t 0).length - 1) t:=by rw [hlen]; exact hE
 unfold mayB
 rw [hsc,hlen,dt hne,Bool.true_and,emb_op hE,depth_emb hE']
 simp only [hall,Bool.true_and]
theorem scanR_U (e:List Nd) (S:Nat → Nat) (hS:∀ i n,nth e i = some n → S i = 1 + szL (fun k => S k.toNat) (kids n)):∀ (suf pre:List Nd) (V V':List Nat),e = pre ++ suf → scanR e suf pre.length V = some V' → V'.Nodup →
  (∀ x ∈ V,x < pre.length) → Usum S V pre.length = pre.length → Usum S V' e.length = e.length
 | [],pre,V,V',h,hs,hn,hV,hU => by
   cases hs
   rw [h]; simpa using hU
 | n :: suf,pre,V,V',h,hs,hn,hV,hU => by
   rw [scanR] at hs
   split at hs
   case isFalse => cases hs
   rename_i hc
   have hpl:(pre ++ [n]).length = pre.length + 1:=by simp
   have hi:nth e pre.length = some n:=by rw [h,nth_getElem?]; simp
   obtain ⟨W,rfl⟩:=scanR_ext e suf _ _ _ hs
   have hn1:=(List.nodup_append.1 hn).1
   have hr:∀ k ∈ kids n,0 ≤ k ∧ k < pre.length:=fun k hk => by simpa using List.all_eq_true.1 hc.2.1 k hk
   have hV':∀ x ∈ V ++ (kids n).map Int.toNat,x < pre.length:=fun x hx => by
    rcases List.mem_append.1 hx with hx | hx
    · exact hV x hx
    · obtain ⟨k,hk,rfl⟩:=List.mem_map.1 hx
      have:=hr k hk; omega
   have hU':=Usum_adds S pre.length (kids n) V hn1 hr
   have hSi:=hS _ _ hi
   have hSU:Usum S (V ++ (kids n).map Int.toNat) (pre.length + 1) = pre.length + 1:=by
    rw [Usum,if_neg (fun hm => by have:=hV' _ hm; omega)]; omega
   exact scanR_U e S hS suf (pre ++ [n]) _ _ (by rw [h]; simp) (by rw [hpl]; exact hs) hn (fun x hx => by have:=hV' x hx; rw [hpl]; omega) (by rw [hpl]; exact hSU)
theorem Usum_zero (S:Nat → Nat) (V:List Nat):∀ i,(∀ j,j < i → j ∈ V) → Usum S V i = 0
 | 0,_ => rfl
 | i + 1,h => by rw [Usum,Usum_zero S V i (fun j hj => h j (by omega)),if_pos (h i (by omega))]
theorem sz_emb {e:List Nd} {i:Nat} {t:Tr} (h:Emb e i t) (f:Nat) (hf:i < f):sz e f (i:Int) = t.size:=by
 have h1:=ord_len (e:=e) f (i:Int) []
 rw [ord_emb e t f i [] h hf] at h1
 simp only [List.nil_append,length_nil,flat_len,Nat.zero_add] at h1
 exact h1.symm
theorem may_tree {e:List Nd} (h:mayB e = true):∃ t,Emb e (e.length - 1) t ∧ Valid t ∧ t.size = e.length ∧ t.op ≠ 28 ∧ dep t = depth e ∧ dep t ≤ 40 ∧ t.size ≤ 5000:=by
 have hM:=may_P h
 have hpos:=List.length_pos_iff.2 hM.ne
 obtain ⟨t,ht⟩:=may_emb hM e.length (e.length - 1) (by omega) (by omega)
 have hd:=depth_emb ht
 have hop:=emb_op ht
 have hsize:t.size = e.length:=by
  have h':=h
  simp only [mayB,and_eq_true,decide_eq_true_eq] at h'
  obtain ⟨h1,h2,h3,h4⟩:=h'
  split at h4
  · cases h4
  rename_i V hs
  simp only [and_eq_true,decide_eq_true_eq] at h4
  obtain ⟨k1,k2⟩:=(scan_iff e e 0 [] V (by simp)).1 hs
  have hlt:=scanR_lt e (e.length - 1) e 0 [] V k1 (by simp) (by omega)
  have hU:=scanR_U e (fun i => sz e (i + 1) (i:Int)) (fun i n hn => ?_) e [] [] V rfl k1 k2 (by simp) rfl
  · obtain ⟨m,hm⟩:∃ m,e.length = m + 1:=⟨e.length - 1,by omega⟩
    rw [hm,Usum,Usum_zero _ V m (fun j hj => ?_),if_neg (fun hh => by have:=hlt m hh; omega)] at hU
    · have hm1:e.length - 1 = m:=by omega
      rw [hm1] at ht
      have:=sz_emb ht (m + 1) (by omega)
      have hU2:0 + sz e (m + 1) (m:Int) = m + 1:=hU
      omega
    · have:=List.all_eq_true.1 h4.1 j (List.mem_range.2 (by omega))
      exact of_decide_eq_true this
  · have hil:i < e.length:=by rw [nth_getElem?] at hn; exact (List.getElem?_eq_some_iff.1 hn).1
    have hg:e.getD i nd0 = n:=by have:=getD_nth hil; rw [hn] at this; exact (Option.some.inj this).symm
    show sz e (i + 1) (i:Int) = _
    rw [sz,Int.toNat_natCast,hg]
    congr 1
    refine szL_congr fun k hk => ?_
    have:=hM.ahead i n hn k hk
    obtain ⟨j,rfl⟩:∃ j:Nat,k = j:=⟨k.toNat,by omega⟩
    rw [Int.toNat_natCast]
    exact sz_fuel hM.ahead i j (by omega) (by omega)
 exact ⟨t,ht,valid_emb hM t _ ht,hsize,by rw [← hop]; exact hM.last,hd.symm,by rw [← hd]; exact hM.deep,by rw [hsize]; exact hM.len⟩
theorem norm_flat {e:List Nd} {t:Tr} (h:mayB e = true) (ht:Emb e (e.length - 1) t):norm e = flat t 0:=by
 have hpos:=List.length_pos_iff.2 (may_P h).ne
 rw [norm,show ((e.length:Int) - 1) = ((e.length - 1:Nat):Int) by omega]
 exact subE_flat h (by omega) ht
theorem norm_of_flat {t:Tr} (hv:Valid t) (hm:mayB (flat t 0) = true):norm (flat t 0) = flat t 0:=by
 have hE:=emb_flat t [] [] hv
 simp only [List.nil_append,List.append_nil,length_nil,Nat.zero_add] at hE
 exact norm_flat hm (by rw [flat_len]; exact hE)
theorem norm_may {e:List Nd} (h:mayB e = true):mayB (norm e) = true ∧ (norm e).length = e.length ∧ depth (norm e) = depth e ∧ norm (norm e) = norm e:=by
 obtain ⟨t,h1,h2,h3,h4,h5,h6,h7⟩:=may_tree h
 have hn:=norm_flat h h1
 have hm:mayB (flat t 0) = true:=by rw [may_flat h2,dt h7,dt h4,dt h6]; rfl
 have hE:=emb_flat t [] [] h2
 simp only [List.nil_append,List.append_nil,length_nil,Nat.zero_add] at hE
 refine ⟨by rw [hn]; exact hm,by rw [hn,flat_len,h3],?_,by rw [hn]; exact norm_of_flat h2 hm⟩
 rw [hn,depth_emb (t:=t) (by rw [flat_len]; exact hE),h5]
theorem norm_len {e:List Nd}:(norm e).length ≤ 5001:=subE_len _
mutual
theorem emb_one {e:List Nd}:∀ (t u:Tr) (i:Nat),Emb e i t → Emb e i u → t = u
 | .mk b ks,.mk c ls,i,⟨n,h1,h2,h3,h4⟩,⟨m,g1,g2,g3,g4⟩ => by
   rw [h1] at g1
   obtain rfl:=Option.some.inj g1
   rw [h2,g2,embs_one ks ls i _ h4 g4]
theorem embs_one {e:List Nd}:∀ (ts us:List Tr) (i:Nat) (l:List Int),Embs e i l ts → Embs e i l us → ts = us
 | [],[],i,l,_,_ => rfl
 | t :: ts,u :: us,i,k :: l,⟨_,_,h3,h4⟩,⟨_,_,g3,g4⟩ => by
   rw [emb_one t u _ h3 g3,embs_one ts us i l h4 g4]
 | [],_ :: _,i,[],h,g => by simp [Embs] at g
 | [],_ :: _,i,_ :: _,h,g => by simp [Embs] at h
 | _ :: _,[],i,[],h,g => by simp [Embs] at h
 | _ :: _,[],i,_ :: _,h,g => by simp [Embs] at g
 | _ :: _,_ :: _,i,[],h,g => by simp [Embs] at h
end
end Go.Proofs.YtadonikkibahnaaGreat.R
end
