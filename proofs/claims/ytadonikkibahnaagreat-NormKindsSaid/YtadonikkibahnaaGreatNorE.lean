import Derived.Test.YtadonikkibahnaaGreatNorD
open Option (bind_some)
open List (length_cons length_nil)
namespace Go.Proofs.YtadonikkibahnaaGreat.R
open Go Go.Bm Go.Proofs
set_option linter.unusedVariables false
set_option linter.unusedSimpArgs false
set_option maxRecDepth 4000
abbrev Op5:Type:=Int × Int × Int × Int × Int
def xp (s:Sm):List Nd:=norm s.2.2
theorem xp_nil {s:Sm} (h:s.2.2 = []):xp s = []:=by
 rw [xp,h]; exact norm_not (by simp [mayB])
theorem xp_len (s:Sm):(xp s).length ≤ 5001:=norm_len
def cntX:List Nd → Nat
 | [] => 0
 | n :: r => (if n.1 = 3 then 0 else 1) + cntX r
theorem cntX_le:∀ x:List Nd,cntX x ≤ x.length
 | [] => Nat.le_refl _
 | n :: r => by rw [cntX,length_cons]; have:=cntX_le r; split <;> omega
def rowP:List Nd → Nat → List Int
 | [],_ => []
 | n :: r,k => (k:Int) :: rowP r (k + if n.1 = 3 then 0 else 1)
theorem rowP_len:∀ (x:List Nd) (k:Nat),(rowP x k).length = x.length
 | [],_ => rfl
 | n :: r,k => by rw [rowP,length_cons,rowP_len r,length_cons]
theorem rowP_get:∀ (x:List Nd) (k i:Nat),i < x.length → ∃ v:Int,0 ≤ v ∧ nth (rowP x k) i = some v
 | [],_,_,h => absurd h (by simp)
 | n :: r,k,0,_ => ⟨(k:Int),by omega,rfl⟩
 | n :: r,k,i + 1,h => by
   simp only [length_cons] at h
   exact rowP_get r _ i (by omega)
def nIn (l:List Sm):Nat:=(l.filter fun s => decide (s.2.2 = [])).length
def inpS (l:List Sm):List Int:=(l.filter fun s => decide (s.2.2 = [])).map (·.2.1)
def sumX:List Sm → Nat
 | [] => 0
 | s :: r => cntX (xp s) + sumX r
theorem nIn_le (l:List Sm):nIn l ≤ l.length:=List.length_filter_le _ _
theorem nIn_one (s:Sm):nIn [s] = if s.2.2 = [] then 1 else 0:=by
 unfold nIn; by_cases h:s.2.2 = [] <;> simp [h]
theorem nIn_app (l m:List Sm):nIn (l ++ m) = nIn l + nIn m:=by simp [nIn]
theorem inpS_app (l m:List Sm):inpS (l ++ m) = inpS l ++ inpS m:=by simp [inpS]
theorem inpS_one (s:Sm):inpS [s] = if s.2.2 = [] then [s.2.1] else []:=by
 unfold inpS; by_cases h:s.2.2 = [] <;> simp [h]
theorem inpS_len (l:List Sm):(inpS l).length = nIn l:=by rw [inpS,List.length_map]; rfl
theorem sumX_app:∀ l m:List Sm,sumX (l ++ m) = sumX l + sumX m
 | [],m => by rw [List.nil_append,sumX,Nat.zero_add]
 | s :: r,m => by rw [List.cons_append,sumX,sumX,sumX_app r m]; omega
theorem sumX_le:∀ l:List Sm,sumX l ≤ 5001 * l.length
 | [] => by simp [sumX]
 | s :: r => by rw [sumX,length_cons]; have:=sumX_le r; have:=cntX_le (xp s); have:=xp_len s; omega
def opsI (k:Nat):List Op5:=(List.range k).map fun j => (3,-1,-1,-1,((j:Nat):Int))
theorem opsI_len (k:Nat):(opsI k).length = k:=by simp [opsI]
theorem opsI_succ (k:Nat):opsI (k + 1) = opsI k ++ [(3,-1,-1,-1,((k:Nat):Int))]:=by simp [opsI,List.range_succ]
def plA:List Sm → Nat → List (List Int)
 | [],_ => []
 | s :: r,j => if s.2.2 = [] then [((j:Nat):Int)] :: plA r (j + 1) else [] :: plA r j
def plB:List Sm → Nat → Nat → List (List Int)
 | [],_,_ => []
 | s :: r,k,j => if s.2.2 = [] then [((j:Nat):Int)] :: plB r k (j + 1) else rowP (xp s) k :: plB r (k + cntX (xp s)) j
theorem plA_len:∀ (l:List Sm) (j:Nat),(plA l j).length = l.length
 | [],_ => rfl
 | s :: r,j => by rw [plA]; split <;> rw [length_cons,plA_len r,length_cons]
theorem plB_len:∀ (l:List Sm) (k j:Nat),(plB l k j).length = l.length
 | [],_,_ => rfl
 | s :: r,k,j => by rw [plB]; split <;> rw [length_cons,plB_len r,length_cons]
theorem plA_snoc (s:Sm):∀ (l:List Sm) (j:Nat),plA (l ++ [s]) j = plA l j ++ [if s.2.2 = [] then [((j + nIn l:Nat):Int)] else []]
 | [],j => by rw [List.nil_append,plA,plA]; split <;> simp [plA,nIn]
 | x :: r,j => by
   rw [List.cons_append,plA,plA,show nIn (x :: r) = nIn [x] + nIn r from nIn_app [x] r,nIn_one]
   by_cases h:x.2.2 = []
   · rw [if_pos h,if_pos h,if_pos h,plA_snoc s r,List.cons_append,Nat.add_assoc]
   · rw [if_neg h,if_neg h,if_neg h,plA_snoc s r,List.cons_append,Nat.zero_add]
theorem plB_snoc (s:Sm):∀ (l:List Sm) (k j:Nat),plB (l ++ [s]) k j = plB l k j ++ [if s.2.2 = [] then [((j + nIn l:Nat):Int)] else rowP (xp s) (k + sumX l)]
 | [],k,j => by rw [List.nil_append,plB,plB]; split <;> simp [plB,nIn,sumX]
 | x :: r,k,j => by
   rw [List.cons_append,plB,plB,show nIn (x :: r) = nIn [x] + nIn r from nIn_app [x] r,nIn_one,sumX]
   by_cases h:x.2.2 = []
   · rw [if_pos h,if_pos h,if_pos h,plB_snoc s r,List.cons_append,Nat.add_assoc,xp_nil h,cntX,Nat.zero_add]
   · rw [if_neg h,if_neg h,if_neg h,plB_snoc s r,List.cons_append,Nat.zero_add,Nat.add_assoc]
theorem plB_get:∀ (l:List Sm) (k j i:Nat) (s:Sm),nth l i = some s → ∃ p,nth (plB l k j) i = some p ∧ (if s.2.2 = [] then ∃ v:Int,0 ≤ v ∧ p = [v] else ∃ q,p = rowP (xp s) q)
 | [],_,_,i,s,h => by rw [nth_getElem?] at h; simp at h
 | x :: r,k,j,0,s,h => by
   have e:x = s:=Option.some.inj h
   subst e
   rw [plB]
   by_cases hx:x.2.2 = []
   · rw [if_pos hx]; exact ⟨_,rfl,by rw [if_pos hx]; exact ⟨_,by omega,rfl⟩⟩
   · rw [if_neg hx]; exact ⟨_,rfl,by rw [if_neg hx]; exact ⟨_,rfl⟩⟩
 | x :: r,k,j,i + 1,s,h => by
   rw [plB]
   split
   · exact plB_get r k (j + 1) i s h
   · exact plB_get r (k + cntX (xp x)) j i s h
def Gets (M:List (List UInt8 × Int)) (P:List (List UInt8)):Prop:=∀ x ∈ P,assocGet (CT.eqK .str) 0 M x = ((P.idxOf x:Nat):Int)
theorem gets_nil:Gets [] []:=fun x h => absurd h (by simp)
theorem gets_snoc {M:List (List UInt8 × Int)} {P:List (List UInt8)} (h:Gets M P) {x:List UInt8} (hx:x ∉ P):Gets (assocSet (CT.eqK .str) M x ((P.length:Nat):Int)) (P ++ [x]):=fun y hy => by
 rw [get_set,List.idxOf_append]
 by_cases e:y = x
 · subst e
   rw [if_pos rfl,if_neg hx,List.idxOf_cons_self,Nat.zero_add]
 · have hm:y ∈ P:=by
    rcases List.mem_append.1 hy with h | h
    · exact h
    · exact absurd (List.mem_singleton.1 h) e
   rw [if_neg e,if_pos hm]
   exact h y hm
theorem mk0_loop (l:List Sm) (hl:l.length ≤ 1000) (R:List Int):∀ (suf pre:List Sm) (M:List (List UInt8 × Int)),l = pre ++ suf → nodR (nmS pre) suf = true → Gets M (nmS pre) →
  ∃ M',k362 T.rb (opsI (nIn pre)) R (inpS pre) M (plA pre 0 ++ List.replicate suf.length []) l (l.length:Nat) (pre.length:Nat) = some (R,M',plA l 0,opsI (nIn l),inpS l) ∧ Gets M' (nmS l)
 | [],pre,M,he,hn,hM => by
   rw [List.append_nil] at he
   subst he
   exact ⟨M,ob362 (by simp only [b362,lt_self,cond_false,length_nil,List.replicate_zero,List.append_nil]),hM⟩
 | s :: suf,pre,M,he,hn,hM => by
   have hll:l.length = pre.length + (suf.length + 1):=by rw [he]; simp
   have hlt:decide (((pre.length:Nat):Int) < ((l.length:Nat):Int)) = true:=dt (by omega)
   have hin:inb ((pre.length:Nat):Int) l.length = true:=inb_t (by omega) (by omega)
   have hnt:nth l ((pre.length:Nat):Int).toNat = some s:=by rw [he]; exact nth_mid pre s suf
   have hnx:IntKind.i64.wrap (((pre.length:Nat):Int) + 1) = (((pre ++ [s]).length:Nat):Int):=next_mid pre s (by omega)
   rw [nodR,Bool.and_eq_true,Bool.not_eq_true',decide_eq_false_iff_not] at hn
   have hM2:=gets_snoc hM hn.1
   rw [nmS_len] at hM2
   obtain ⟨M',ih,hM'⟩:=mk0_loop l hl R suf (pre ++ [s]) (assocSet (CT.eqK .str) M s.1 ((pre.length:Nat):Int)) (by simp [he]) (by rw [nmS_app]; exact hn.2) (by rw [nmS_app]; exact hM2)
   refine ⟨M',ob362 ?_,hM'⟩
   have hni:=nIn_le pre
   rw [nIn_app,inpS_app,nIn_one,inpS_one,plA_snoc,Nat.zero_add] at ih
   simp only [b362,hlt,hin,hnt,cond_true,bind_some]
   by_cases hne:s.2.2 = []
   · rw [if_pos hne,if_pos hne,if_pos hne,opsI_succ,List.append_assoc,List.singleton_append] at ih
     have hpl:(plA pre 0 ++ List.replicate (s :: suf).length ([]:List Int)).length = l.length:=by simp [plA_len]; omega
     have hset:setNth (plA pre 0 ++ List.replicate (s :: suf).length ([]:List Int)) ((pre.length:Nat):Int).toNat [((nIn pre:Nat):Int)] = plA pre 0 ++ [((nIn pre:Nat):Int)] :: List.replicate suf.length []:=by
      rw [length_cons,List.replicate_succ]
      exact set_mid _ _ _ _ (by rw [plA_len,Int.toNat_natCast])
     simp only [bt (show ((s.2.2.length:Nat):Int) = 0 by rw [hne]; rfl),cond_true,hpl,hin,blt_t (show ((pre.length:Nat):Int).toNat < l.length by omega),Bool.and_true,opsI_len,inpS_len,ble_most (show nIn pre + 1 ≤ 274877906944 by omega),hset,hnx]
     exact ih
   · rw [if_neg hne,if_neg hne,if_neg hne,Nat.add_zero,List.append_nil,List.append_assoc,List.singleton_append] at ih
     have hpos:0 < s.2.2.length:=List.length_pos_iff.2 hne
     simp only [bf (show ((s.2.2.length:Nat):Int) ≠ 0 by omega),cond_false,hnx]
     exact ih
theorem mk4_loop (A B:List (List Int)) (x:List Nd) (hx:x.length ≤ 10000) (hA:A.length ≤ 1000):∀ (suf pre:List Nd) (row:List Int) (nx:Nat),x = pre ++ suf → row.length + suf.length ≤ 100000 → nx + suf.length ≤ 100000000 →
  k365 T.rb (A ++ row :: B) (nx:Nat) (A.length:Nat) x (x.length:Nat) (pre.length:Nat) = some (A ++ (row ++ rowP suf nx) :: B,((nx + cntX suf:Nat):Int))
 | [],pre,row,nx,he,h1,h2 => ob365 (by
   rw [List.append_nil] at he
   subst he
   simp only [b365,lt_self,cond_false,rowP,List.append_nil,cntX,Nat.add_zero])
 | n :: suf,pre,row,nx,he,h1,h2 => ob365 (by
   simp only [length_cons] at h1 h2
   have hll:x.length = pre.length + (suf.length + 1):=by rw [he]; simp
   have hlt:decide (((pre.length:Nat):Int) < ((x.length:Nat):Int)) = true:=dt (by omega)
   have hin:inb ((pre.length:Nat):Int) x.length = true:=inb_t (by omega) (by omega)
   have hnt:nth x ((pre.length:Nat):Int).toNat = some n:=by rw [he]; exact nth_mid pre n suf
   have hnx:IntKind.i64.wrap (((pre.length:Nat):Int) + 1) = (((pre ++ [n]).length:Nat):Int):=next_mid pre n (by omega)
   have hset:∀ y,setNth (A ++ row :: B) ((A.length:Nat):Int).toNat y = A ++ y :: B:=fun y => set_mid _ _ _ _ (by rw [Int.toNat_natCast])
   have ih:=mk4_loop A B x hx hA suf (pre ++ [n]) (row ++ [((nx:Nat):Int)]) (nx + if n.1 = 3 then 0 else 1) (by simp [he]) (by simp; omega) (by split <;> omega)
   have h28:k366 T.rb n ((nx:Nat):Int) = some (n,((nx + (if n.1 = 3 then 0 else 1):Nat):Int)):=ob366 (by
    simp only [b366]
    by_cases h3:n.1 = 3
    · rw [nbt h3,cond_false,if_pos h3]; rfl
    · rw [nbf h3,cond_true,if_neg h3,wr_succ (by omega)])
   have hbl:Nat.blt ((A.length:Nat):Int).toNat (A ++ row :: B).length = true:=blt_t (by simp)
   simp only [b365,hlt,hin,hnt,cond_true,bind_some,inb_mid,nth_mid,ble_most (show row.length + 1 ≤ 274877906944 by omega),Bool.and_true,hbl,Nat.beq_refl,hset,h28,hnx,ih,rowP,cntX]
   rw [List.append_assoc,List.singleton_append,Nat.add_assoc])
theorem mk2_loop (l:List Sm) (hl:l.length ≤ 1000) (hs:∀ s ∈ l,s.2.2.length ≤ 1000000) (k0:Nat) (hk0:k0 ≤ 1000):∀ (suf pre:List Sm),l = pre ++ suf →
  k363 T.rb (pre.map xp ++ List.replicate suf.length []) (plB pre k0 0 ++ plA suf (nIn pre)) ((k0 + sumX pre:Nat):Int) l (l.length:Nat) (pre.length:Nat) = some (l.map xp,plB l k0 0)
 | [],pre,he => ob363 (by
   rw [List.append_nil] at he
   subst he
   simp only [b363,lt_self,cond_false,length_nil,List.replicate_zero,List.append_nil,plA])
 | s :: suf,pre,he => ob363 (by
   have hll:l.length = pre.length + (suf.length + 1):=by rw [he]; simp
   have hlt:decide (((pre.length:Nat):Int) < ((l.length:Nat):Int)) = true:=dt (by omega)
   have hin:inb ((pre.length:Nat):Int) l.length = true:=inb_t (by omega) (by omega)
   have hnt:nth l ((pre.length:Nat):Int).toNat = some s:=by rw [he]; exact nth_mid pre s suf
   have hnx:IntKind.i64.wrap (((pre.length:Nat):Int) + 1) = (((pre ++ [s]).length:Nat):Int):=next_mid pre s (by omega)
   have hsl:=hs s (by rw [he]; simp)
   have ih:=mk2_loop l hl hs k0 hk0 suf (pre ++ [s]) (by simp [he])
   have hsub:c59 T.rf s.2.2 (((s.2.2.length:Nat):Int) - 1) = some (xp s):=Sub_eq hsl _
   have hel:(pre.map xp ++ List.replicate (s :: suf).length ([]:List Nd)).length = l.length:=by simp; omega
   have hset:setNth (pre.map xp ++ List.replicate (s :: suf).length ([]:List Nd)) ((pre.length:Nat):Int).toNat (xp s) = pre.map xp ++ xp s :: List.replicate suf.length []:=by
    rw [length_cons,List.replicate_succ]
    exact set_mid _ _ _ _ (by rw [List.length_map,Int.toNat_natCast])
   have hbl:Nat.blt ((pre.length:Nat):Int).toNat l.length = true:=blt_t (by omega)
   have hxl:=xp_len s
   have hsx:=sumX_le pre
   obtain ⟨row,hrow,hrl⟩:∃ row,plA (s :: suf) (nIn pre) = row :: plA suf (nIn (pre ++ [s])) ∧ (if s.2.2 = [] then row = [((nIn pre:Nat):Int)] else row = []):=by
    rw [plA,nIn_app,nIn_one]
    by_cases h:s.2.2 = []
    · rw [if_pos h,if_pos h]; exact ⟨_,rfl,by rw [if_pos h]⟩
    · rw [if_neg h,if_neg h]; exact ⟨_,rfl,by rw [if_neg h]⟩
   have hrl1:row.length ≤ 1:=by split at hrl <;> simp [hrl]
   have h4:=mk4_loop (plB pre k0 0) (plA suf (nIn (pre ++ [s]))) (xp s) (by omega) (by rw [plB_len]; omega) (xp s) [] row (k0 + sumX pre) rfl (by omega) (by omega)
   rw [plB_len,length_nil,show ((0:Nat):Int) = (0:Int) from rfl] at h4
   have hex:nth (pre.map xp ++ xp s :: List.replicate suf.length []) ((pre.length:Nat):Int).toNat = some (xp s):=by
    have:=nth_mid (pre.map xp) (xp s) (List.replicate suf.length [])
    rw [List.length_map] at this; exact this
   have hexl:inb ((pre.length:Nat):Int) (pre.map xp ++ xp s :: List.replicate suf.length []).length = true:=by
    have:=inb_mid (pre.map xp) (xp s) (List.replicate suf.length [])
    rw [List.length_map] at this; exact this
   have h24:k364 T.rb (pre.map xp ++ xp s :: List.replicate suf.length []) (plB pre k0 0 ++ plA (s :: suf) (nIn pre)) ((k0 + sumX pre:Nat):Int) (pre.length:Nat) = some (pre.map xp ++ xp s :: List.replicate suf.length [],plB pre k0 0 ++ (row ++ rowP (xp s) (k0 + sumX pre)) :: plA suf (nIn (pre ++ [s])),((k0 + sumX pre + cntX (xp s):Nat):Int)):=ob364 (by
    simp only [b364,hex,hexl,cond_true,bind_some,hrow,h4])
   simp only [b363,hlt,hin,hnt,cond_true,bind_some,pred_i hsl,hsub,hel,hbl,hset,h24,hnx]
   rw [List.map_append,sumX_app,plB_snoc,Nat.zero_add,List.append_assoc,List.append_assoc] at ih
   have hsx1:sumX [s] = cntX (xp s):=by simp [sumX]
   rw [hsx1,← Nat.add_assoc] at ih
   have hr2:(if s.2.2 = [] then [((nIn pre:Nat):Int)] else rowP (xp s) (k0 + sumX pre)) = row ++ rowP (xp s) (k0 + sumX pre):=by
    by_cases h:s.2.2 = []
    · rw [if_pos h] at hrl ⊢; rw [hrl,xp_nil h,rowP,List.append_nil]
    · rw [if_neg h] at hrl ⊢; rw [hrl,List.nil_append]
   rw [hr2] at ih
   exact ih)
end Go.Proofs.YtadonikkibahnaaGreat.R
