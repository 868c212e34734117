import Derived.Test.YtadonikkibahnaaGreatNorF
open Option (bind_some)
open List (length_append length_cons length_nil)
namespace Go.Proofs.YtadonikkibahnaaGreat.R
open Go Go.Bm Go.Proofs
set_option linter.unusedVariables false
set_option linter.unusedSimpArgs false
set_option maxRecDepth 4000
abbrev Nt5:Type:=List Op5 × List Int × List Int
def setOp (y:Op5) (j:Nat) (v:Int):Op5:=if j = 0 then (y.1,v,y.2.2) else if j = 1 then (y.1,y.2.1,v,y.2.2.2) else (y.1,y.2.1,y.2.2.1,v,y.2.2.2.2)
def fillO (f:Int → Int):List Int → Nat → Op5 → Op5
 | [],_,y => y
 | k :: r,j,y => fillO f r (j + 1) (setOp y j (f k))
def opN (f:Int → Int) (n:Nd):Op5:=fillO f (kids n) 0 (n.1,-1,-1,-1,n.2.2.2.2.1)
def opsX (f:Int → Int) (x:List Nd):List Op5:=(x.filter fun n => decide (n.1 ≠ 3)).map (opN f)
theorem opsX_cons (f:Int → Int) (n:Nd) (x:List Nd):opsX f (n :: x) = if n.1 = 3 then opsX f x else opN f n :: opsX f x:=by
 unfold opsX
 by_cases h:n.1 = 3
 · rw [if_pos h,List.filter_cons_of_neg (by simp [h])]
 · rw [if_neg h,List.filter_cons_of_pos (by simp [h]),List.map_cons]
theorem opsX_len (f:Int → Int):∀ x:List Nd,(opsX f x).length = cntX x
 | [] => rfl
 | n :: x => by
   rw [opsX_cons,cntX]
   by_cases h:n.1 = 3
   · rw [if_pos h,if_pos h,opsX_len f x,Nat.zero_add]
   · rw [if_neg h,if_neg h,length_cons,opsX_len f x,Nat.add_comm]
noncomputable def opsF (l:List Sm):List Sm → Nat → List Op5
 | [],_ => []
 | s :: r,i => opsX (ndV l (xp s) i) (xp s) ++ opsF l r (i + 1)
noncomputable def rtsF (l:List Sm):List Sm → Nat → List Int
 | [],_ => []
 | _ :: r,i => rtV l i :: rtsF l r (i + 1)
theorem opsF_len (l:List Sm):∀ (r:List Sm) (i:Nat),(opsF l r i).length = sumX r
 | [],_ => rfl
 | s :: r,i => by rw [opsF,length_append,opsX_len,opsF_len l r,sumX]
theorem rtsF_len (l:List Sm):∀ (r:List Sm) (i:Nat),(rtsF l r i).length = r.length
 | [],_ => rfl
 | s :: r,i => by rw [rtsF,length_cons,rtsF_len l r,length_cons]
theorem kids_in {l:List Sm} (F:Fine l) {i:Nat} {s:Sm} (hi:nth l i = some s) {j:Nat} {n:Nd} (hn:nth (xp s) j = some n):∀ k ∈ kids n,0 ≤ k ∧ k < (xp s).length:=fun k hk => by
 have he:s.2.2 ≠ []:=fun h => by rw [xp_nil h] at hn; cases hn
 obtain ⟨hm,_⟩:=F.ok s (nth_mem hi).1 he
 have:=(may_P (norm_may hm).1).ahead j n hn k hk
 have:=(nth_mem hn).2
 omega
section
variable {l:List Sm} (F:Fine l) {M:List (List UInt8 × Int)} (hM:Gets M (nmS l))
theorem fill_loop {i:Int} {f:Int → Int}:∀ (suf pre:List Int) (y:Op5),pre.length + suf.length ≤ 3 → (∀ k ∈ suf,c80 T.rf (PL l) (EX l) M i k = some (PL l,EX l,M,f k)) →
  k370 T.rb (pre ++ suf) (PL l) y (EX l) M i ((pre ++ suf).length:Nat) (pre.length:Nat) = some (pre ++ suf,PL l,fillO f suf pre.length y,EX l,M)
 | [],pre,y,h,hk => ob370 (by simp only [b370,lt_end,lt_self,List.append_nil,cond_false,fillO])
 | k :: suf,pre,y,h,hk => ob370 (by
   simp only [length_cons] at h
   have ih:=fill_loop (i:=i) (f:=f) suf (pre ++ [k]) (setOp y pre.length (f k)) (by simp; omega) (fun x hx => hk x (List.mem_cons_of_mem _ hx))
   simp only [List.append_assoc,List.singleton_append] at ih
   have hv:=hk k (List.mem_cons_self ..)
   have h3:inb ((pre.length:Nat):Int) 3 = true:=inb_t (by omega) (by omega)
   have hl:(pre ++ [k]).length = pre.length + 1:=by simp
   rw [fillO,← hl]
   rcases (show pre.length = 0 ∨ pre.length = 1 ∨ pre.length = 2 by omega) with e | e | e
   · have b2:Nat.beq ((pre.length:Nat):Int).toNat 2 = false:=by rw [e]; rfl
     have b1:Nat.beq ((pre.length:Nat):Int).toNat 1 = false:=by rw [e]; rfl
     have b0:Nat.beq ((pre.length:Nat):Int).toNat 0 = true:=by rw [e]; rfl
     simp only [b370,lt_mid,inb_mid,nth_mid,cond_true,bind_some,h3,b2,b1,b0,cond_false,hv,next_mid pre k (by omega)]
     rw [← ih]; simp only [setOp,if_pos e]
   · have b2:Nat.beq ((pre.length:Nat):Int).toNat 2 = false:=by rw [e]; rfl
     have b1:Nat.beq ((pre.length:Nat):Int).toNat 1 = true:=by rw [e]; rfl
     simp only [b370,lt_mid,inb_mid,nth_mid,cond_true,bind_some,h3,b2,b1,cond_false,hv,next_mid pre k (by omega)]
     rw [← ih]; simp only [setOp,if_neg (show ¬ pre.length = 0 by omega),if_pos e]
   · have b2:Nat.beq ((pre.length:Nat):Int).toNat 2 = true:=by rw [e]; rfl
     simp only [b370,lt_mid,inb_mid,nth_mid,cond_true,bind_some,h3,b2,hv,next_mid pre k (by omega)]
     rw [← ih]; simp only [setOp,if_neg (show ¬ pre.length = 0 by omega),if_neg (show ¬ pre.length = 1 by omega)])
include F hM
theorem ops_loop {i:Nat} {s:Sm} (hi:nth l i = some s) (R I:List Int):∀ (suf pre:List Nd) (ops:List Op5),xp s = pre ++ suf → ops.length + suf.length ≤ 1000000 →
  k369 T.rb ops R I (PL l) (EX l) M (i:Nat) (xp s) ((xp s).length:Nat) (pre.length:Nat) = some (R,I,PL l,EX l,M,ops ++ opsX (ndV l (xp s) i) suf)
 | [],pre,ops,he,h => ob369 (by
   rw [List.append_nil] at he
   simp only [b369,he,lt_self,cond_false,opsX,List.filter_nil,List.map_nil,List.append_nil])
 | n :: suf,pre,ops,he,h => ob369 (by
   simp only [length_cons] at h
   have hxl:=xp_len s
   have hll:(xp s).length = pre.length + (suf.length + 1):=by rw [he]; simp
   have hlt:decide (((pre.length:Nat):Int) < (((xp s).length:Nat):Int)) = true:=dt (by omega)
   have hin:inb ((pre.length:Nat):Int) (xp s).length = true:=inb_t (by omega) (by omega)
   have hnt:nth (xp s) ((pre.length:Nat):Int).toNat = some n:=by rw [he]; exact nth_mid pre n suf
   have hnx:IntKind.i64.wrap (((pre.length:Nat):Int) + 1) = (((pre ++ [n]).length:Nat):Int):=next_mid pre n (by omega)
   simp only [b369,hlt,hin,hnt,cond_true,bind_some]
   rw [opsX_cons]
   by_cases h3:n.1 = 3
   · have ih:=ops_loop hi R I suf (pre ++ [n]) ops (by simp [he]) (by omega)
     rw [bt h3,cond_true,if_pos h3,hnx]
     exact ih
   · have ih:=ops_loop hi R I suf (pre ++ [n]) (ops ++ [opN (ndV l (xp s) i) n]) (by simp [he]) (by simp; omega)
     rw [List.append_assoc,List.singleton_append] at ih
     have hkl:=kids_len n
     have hnt':nth (xp s) pre.length = some n:=by have h:=hnt; rw [Int.toNat_natCast] at h; exact h
     have hkin:=kids_in F hi hnt'
     have hfill:=fill_loop (l:=l) (M:=M) (i:=((i:Nat):Int)) (f:=ndV l (xp s) i) (kids n) [] (n.1,-1,-1,-1,n.2.2.2.2.1) (by simp; omega) (fun k hk => (ndV_ok F hM hi (hkin k hk)).2.1)
     rw [List.nil_append,length_nil,show ((0:Nat):Int) = (0:Int) from rfl] at hfill
     rw [bf h3,cond_false,if_neg h3,kids_eq,bind_some,hfill,bind_some,ble_most (show ops.length + 1 ≤ 274877906944 by omega),Bool.and_true,cond_true,hnx]
     exact ih)
theorem main_loop5 (I:List Int):∀ (suf pre:List Sm) (ops:List Op5) (R:List Int),l = pre ++ suf → ops.length + 5001 * suf.length ≤ 1000000 → R.length + suf.length ≤ 1000000 →
  k367 T.rb (PL l) (EX l) ops R I M ((EX l).length:Nat) (pre.length:Nat) = some (PL l,EX l,I,M,ops ++ opsF l suf pre.length,R ++ rtsF l suf pre.length)
 | [],pre,ops,R,he,h1,h2 => ob367 (by
   have hE:(EX l).length = pre.length:=by rw [EX,List.length_map,he]; simp
   simp only [b367,hE,lt_self,cond_false,opsF,rtsF,List.append_nil])
 | s :: suf,pre,ops,R,he,h1,h2 => ob367 (by
   simp only [length_cons] at h1 h2
   have hll:l.length = pre.length + (suf.length + 1):=by rw [he]; simp
   have hE:(EX l).length = l.length:=by rw [EX,List.length_map]
   have hPl:(PL l).length = l.length:=plB_len _ _ _
   have hlen:=F.len
   have hi:nth l pre.length = some s:=by
    have:=nth_mid pre s suf
    rw [Int.toNat_natCast,← he] at this; exact this
   have hlt:decide (((pre.length:Nat):Int) < ((l.length:Nat):Int)) = true:=dt (by omega)
   have hin:inb ((pre.length:Nat):Int) l.length = true:=inb_t (by omega) (by omega)
   have hnt:nth (EX l) ((pre.length:Nat):Int).toNat = some (xp s):=by rw [Int.toNat_natCast]; exact ex_nth hi
   have hnx:IntKind.i64.wrap (((pre.length:Nat):Int) + 1) = (((pre ++ [s]).length:Nat):Int):=next_mid pre s (by omega)
   obtain ⟨p,g1,g2,g3,g4,g5,g6⟩:=rtV_ok F hM hi
   have hnp:nth (PL l) ((pre.length:Nat):Int).toNat = some p:=by rw [Int.toNat_natCast]; exact g1
   have hxl:=xp_len s
   have hops:=ops_loop F hM hi (R ++ [rtV l pre.length]) I (xp s) [] ops rfl (by omega)
   rw [length_nil,show ((0:Nat):Int) = (0:Int) from rfl] at hops
   have h38:k368 T.rb ops (R ++ [rtV l pre.length]) I (PL l) (EX l) M ((pre.length:Nat):Int) (xp s) = some (R ++ [rtV l pre.length],I,PL l,EX l,M,ops ++ opsX (ndV l (xp s) pre.length) (xp s)):=ob368 (by
    simp only [b368,hops,bind_some])
   have hlo:(opsX (ndV l (xp s) pre.length) (xp s)).length ≤ 5001:=by rw [opsX_len]; have:=cntX_le (xp s); omega
   have ih:=main_loop5 I suf (pre ++ [s]) (ops ++ opsX (ndV l (xp s) pre.length) (xp s)) (R ++ [rtV l pre.length]) (by simp [he]) (by simp only [length_append]; omega) (by simp; omega)
   have hp1:(pre ++ [s]).length = pre.length + 1:=by simp
   rw [hp1,hE] at ih
   simp only [b367,hE,hPl,hlt,hin,hnt,hnp,cond_true,bind_some,wr_pred (show p.length < 4611686018427387904 by omega),g5,ble_most (show R.length + 1 ≤ 274877906944 by omega),Bool.and_true,h38,hnx,hp1]
   rw [opsF,rtsF]
   simp only [List.append_assoc,List.singleton_append] at ih ⊢
   exact ih)
end
noncomputable def netS (l:List Sm):Nt5 × Int:=if chk12 l = 1 then (([],[],[]),1) else if pastS l = true then (([],[],[]),1) else if chk12 l = 0 then ((opsI (nIn l) ++ opsF l l 0,rtsF l l 0,inpS l),0) else (([],[],[]),chk12 l)
theorem Make_eq {l:List Sm} (hl:l.length ≤ 100) (hs:∀ s ∈ l,s.2.2.length ≤ 1000000):c44 T.rf l = some (netS l):=or44 (by
 simp only [r44,Run_eq (l:=l) (by omega) hs,bind_some,PastS_eq hs (show l.length ≤ 1000000 by omega)]
 unfold netS
 by_cases h1:chk12 l = 1
 · rw [bt h1,cond_true,if_pos h1]
 rw [bf h1,cond_false,if_neg h1]
 cases hp:pastS l
 case true => rw [cond_true,if_pos rfl]
 rw [cond_false,if_neg (by decide)]
 by_cases h0:chk12 l = 0
 case neg => rw [nbf h0,cond_true,if_neg h0]
 rw [nbt h0,cond_false,if_pos h0]
 have F:=fine_of hl hs h0
 obtain ⟨M,hM0,hM⟩:=mk0_loop l (by omega) [] l [] [] rfl F.nod gets_nil
 have hni:=nIn_le l
 have h2:=mk2_loop l (by omega) hs (nIn l) (by omega) l [] rfl
 have h6:=main_loop5 F hM (inpS l) l [] (opsI (nIn l)) [] rfl (by rw [opsI_len]; omega) (by simp; omega)
 simp only [show nmS [] = [] from rfl,show nIn [] = 0 from rfl,show inpS [] = [] from rfl,show opsI 0 = [] from rfl,plA,plB,sumX,List.map_nil,List.nil_append,length_nil,Nat.add_zero] at hM0 h2 h6
 rw [show ((0:Nat):Int) = (0:Int) from rfl] at hM0 h2 h6
 have g1:inb' ((l.length:Nat):Int) most = true:=by rw [inb'_nat]; exact dt (by show l.length ≤ 274877906944; omega)
 have g2:inb' ((l.length:Nat):Int) l.length = true:=by rw [inb'_nat]; exact dt (Nat.le_refl _)
 simp only [g1,g2,cond_true,hM0,bind_some,opsI_len,h2]
 show (k367 T.rb (PL l) (EX l) _ _ _ _ (((EX l).length:Nat):Int) 0).bind _ = _
 rw [h6,bind_some])
section
variable {l:List Sm} (F:Fine l) {M:List (List UInt8 × Int)} (hM:Gets M (nmS l))
include F hM
end
end Go.Proofs.YtadonikkibahnaaGreat.R
