import Derived.Test.YtadonikkibahnaaGreatNorH
open Option (bind_some)
open List (length_append length_cons length_nil)
namespace Go.Proofs.YtadonikkibahnaaGreat.R
open Go Go.Bm Go.Proofs
set_option linter.unusedVariables false
set_option linter.unusedSimpArgs false
set_option maxRecDepth 4000
def one3 (op:Int):Nat:=if op = 3 then 0 else 1
mutual
def wX:Tr → Nat
 | .mk b ks => one3 b.1 + wXs ks
def wXs:List Tr → Nat
 | [] => 0
 | t :: r => wX t + wXs r
end
theorem cntX_app:∀ a b:List Nd,cntX (a ++ b) = cntX a + cntX b
 | [],b => by rw [List.nil_append,cntX,Nat.zero_add]
 | n :: a,b => by rw [List.cons_append,cntX,cntX,cntX_app a b,Nat.add_assoc]
mutual
theorem cntX_flat:∀ (t:Tr) (o:Nat),cntX (flat t o) = wX t
 | .mk b ks,o => by
   rw [flat,cntX_app,cntX_flats ks,wX,cntX,cntX,aim_op,Nat.add_zero,Nat.add_comm]; rfl
theorem cntX_flats:∀ (ts:List Tr) (o:Nat),cntX (flats ts o) = wXs ts
 | [],_ => by rw [flats,wXs,cntX]
 | t :: r,o => by rw [flats,cntX_app,cntX_flat t,cntX_flats r,wXs]
end
open Classical in
noncomputable def wAt (e:List Nd) (i:Nat):Nat:=if h:∃ t,Emb e i t then wX h.choose else 0
theorem wAt_emb {e:List Nd} {i:Nat} {t:Tr} (h:Emb e i t):wAt e i = wX t:=by
 have hh:∃ t,Emb e i t:=⟨t,h⟩
 rw [wAt,dif_pos hh,emb_one _ _ _ h hh.choose_spec]
def sumW (S:Nat → Nat):List Nat → Nat
 | [] => 0
 | x :: r => S x + sumW S r
theorem sumW_app (S:Nat → Nat):∀ a b:List Nat,sumW S (a ++ b) = sumW S a + sumW S b
 | [],b => by rw [List.nil_append,sumW,Nat.zero_add]
 | x :: a,b => by rw [List.cons_append,sumW,sumW,sumW_app S a b,Nat.add_assoc]
theorem sumW_perm {S:Nat → Nat} {a b:List Nat} (h:a.Perm b):sumW S a = sumW S b:=by
 induction h with
 | nil => rfl
 | cons x _ ih => rw [sumW,sumW,ih]
 | swap x y l => simp only [sumW]; omega
 | trans _ _ h1 h2 => exact h1.trans h2
theorem wAt_kids {e:List Nd}:∀ (ts:List Tr) (l:List Int) (i:Nat),Embs e i l ts → sumW (wAt e) (l.map Int.toNat) = wXs ts
 | [],[],_,_ => rfl
 | t :: r,k :: l,i,h => by
   rw [Embs] at h
   rw [List.map_cons,sumW,wXs,wAt_emb h.2.2.1,wAt_kids r l i h.2.2.2]
 | [],_ :: _,_,h => h.elim
 | _ :: _,[],_,h => h.elim
theorem wAt_node {e:List Nd} (hM:MayP e) {i:Nat} {n:Nd} (hn:nth e i = some n):wAt e i = one3 n.1 + sumW (wAt e) ((kids n).map Int.toNat):=by
 obtain ⟨t,ht⟩:=may_emb hM e.length i (nth_mem hn).2 (nth_mem hn).2
 obtain ⟨b,ks⟩:=t
 have h:=ht
 rw [Emb] at h
 obtain ⟨m,h1,h2,h3,h4⟩:=h
 rw [hn] at h1
 obtain rfl:=Option.some.inj h1
 rw [wAt_emb ht,wX,wAt_kids ks _ i h4,h2]; rfl
theorem scan_sum {e:List Nd} (hM:MayP e):∀ (suf pre:List Nd) (V V':List Nat),e = pre ++ suf → scanR e suf pre.length V = some V' →
  sumW (wAt e) ((List.range' pre.length suf.length)) + sumW (wAt e) V = cntX suf + sumW (wAt e) V'
 | [],pre,V,V',he,h => by
   rw [scanR] at h
   obtain rfl:=Option.some.inj h
   rw [length_nil,List.range'_zero,cntX]; rfl
 | n :: suf,pre,V,V',he,h => by
   rw [scanR] at h
   split at h
   · have hi:nth e pre.length = some n:=by
      have:=nth_mid pre n suf
      rw [Int.toNat_natCast,← he] at this; exact this
     have ih:=scan_sum hM suf (pre ++ [n]) (V ++ (kids n).map Int.toNat) V' (by simp [he]) (by rw [length_append,List.length_singleton]; exact h)
     rw [length_append,List.length_singleton,sumW_app] at ih
     rw [length_cons,List.range'_succ,sumW,wAt_node hM hi,cntX]
     unfold one3
     omega
   · cases h
theorem cntX_norm (e:List Nd) (h:mayB e = true):cntX (norm e) = cntX e:=by
 obtain ⟨t,ht,_⟩:=may_tree h
 have hM:=may_P h
 obtain ⟨V,hV,hc⟩:=may_V h
 have hs:=scan_sum hM e [] [] V rfl hV
 rw [norm_flat h ht,cntX_flat,← wAt_emb ht]
 have hpos:=List.length_pos_iff.2 hM.ne
 obtain ⟨m,hm⟩:∃ m,e.length = m + 1:=⟨e.length - 1,by omega⟩
 have hp:V.Perm (List.range m):=by
  rw [List.perm_iff_count]
  intro x
  rw [hc x,hm]
  by_cases hx:x < m
  · rw [if_pos (by omega)]
    have h1:=(nod_count (List.range m)).1 List.nodup_range x
    have h2:=List.count_pos_iff.2 (List.mem_range.2 hx)
    omega
  · rw [if_neg (by omega)]
    exact (List.count_eq_zero.2 fun hh => hx (List.mem_range.1 hh)).symm
 rw [length_nil,← List.range_eq_range',hm,List.range_succ,sumW_app,sumW_perm hp] at hs
 simp only [sumW] at hs
 rw [hm,Nat.add_sub_cancel]
 omega
theorem cnt2_loop (l:List Sm) (hl:l.length ≤ 1000) {i:Nat} {s:Sm} (hi:nth l i = some s):∀ (suf pre:List Nd) (c:Nat),s.2.2 = pre ++ suf → s.2.2.length ≤ 1000000 → c + suf.length ≤ 1000000000 →
  k493 T.rb l (c:Nat) (i:Nat) (pre.length:Nat) = some ((c + cntX suf:Nat):Int)
 | [],pre,c,he,h1,h2 => ob493 (by
   rw [List.append_nil] at he
   have hnl:nth l ((i:Nat):Int).toNat = some s:=by rw [Int.toNat_natCast]; exact hi
   have hin:inb ((i:Nat):Int) l.length = true:=inb_t (by omega) (by have:=(nth_mem hi).2; omega)
   simp only [b493,hin,hnl,cond_true,bind_some,he,lt_self,cond_false,cntX,Nat.add_zero])
 | n :: suf,pre,c,he,h1,h2 => ob493 (by
   simp only [length_cons] at h2
   have hll:s.2.2.length = pre.length + (suf.length + 1):=by rw [he]; simp
   have hnl:nth l ((i:Nat):Int).toNat = some s:=by rw [Int.toNat_natCast]; exact hi
   have hin:inb ((i:Nat):Int) l.length = true:=inb_t (by omega) (by have:=(nth_mem hi).2; omega)
   have hlt:decide (((pre.length:Nat):Int) < ((s.2.2.length:Nat):Int)) = true:=dt (by omega)
   have hin2:inb ((pre.length:Nat):Int) s.2.2.length = true:=inb_t (by omega) (by omega)
   have hnt:nth s.2.2 ((pre.length:Nat):Int).toNat = some n:=by rw [he]; exact nth_mid pre n suf
   have hnx:IntKind.i64.wrap (((pre.length:Nat):Int) + 1) = (((pre ++ [n]).length:Nat):Int):=next_mid pre n (by omega)
   simp only [b493,hin,hnl,hlt,hin2,hnt,cond_true,bind_some,hnx,cntX]
   by_cases h3:n.1 = 3
   · have ih:=cnt2_loop l hl hi suf (pre ++ [n]) c (by simp [he]) h1 (by omega)
     rw [nbt h3,cond_false,if_pos h3,Nat.zero_add]
     exact ih
   · have ih:=cnt2_loop l hl hi suf (pre ++ [n]) (c + 1) (by simp [he]) h1 (by omega)
     rw [nbf h3,cond_true,if_neg h3,wr_succ (by omega),← Nat.add_assoc]
     exact ih)
def sumE:List Sm → Nat
 | [] => 0
 | s :: r => (if s.2.2 = [] then 1 else 0) + cntX s.2.2 + sumE r
theorem cnt0_loop (l:List Sm) (hl:l.length ≤ 100) (hs:∀ s ∈ l,s.2.2.length ≤ 100):∀ (suf pre:List Sm) (c:Nat),l = pre ++ suf → c + 1000 * suf.length ≤ 1000000 →
  k492 T.rb l (c:Nat) (pre.length:Nat) = some ((c + sumE suf:Nat):Int)
 | [],pre,c,he,h => ob492 (by
   rw [List.append_nil] at he
   subst he
   simp only [b492,lt_self,cond_false,sumE,Nat.add_zero])
 | s :: suf,pre,c,he,h => ob492 (by
   simp only [length_cons] at h
   have hll:l.length = pre.length + (suf.length + 1):=by rw [he]; simp
   have hlt:decide (((pre.length:Nat):Int) < ((l.length:Nat):Int)) = true:=dt (by omega)
   have hin:inb ((pre.length:Nat):Int) l.length = true:=inb_t (by omega) (by omega)
   have hnt:nth l ((pre.length:Nat):Int).toNat = some s:=by rw [he]; exact nth_mid pre s suf
   have hi:nth l pre.length = some s:=by have h:=hnt; rw [Int.toNat_natCast] at h; exact h
   have hnx:IntKind.i64.wrap (((pre.length:Nat):Int) + 1) = (((pre ++ [s]).length:Nat):Int):=next_mid pre s (by omega)
   have hsl:=hs s (nth_mem hi).1
   have hcx:=cntX_le s.2.2
   simp only [b492,hlt,hin,hnt,cond_true,bind_some,hnx,sumE]
   by_cases hne:s.2.2 = []
   · have h2:=cnt2_loop l (by omega) hi s.2.2 [] (c + 1) rfl (by omega) (by omega)
     rw [length_nil,show ((0:Nat):Int) = (0:Int) from rfl] at h2
     have ih:=cnt0_loop l hl hs suf (pre ++ [s]) (c + 1 + cntX s.2.2) (by simp [he]) (by omega)
     rw [bt (show ((s.2.2.length:Nat):Int) = 0 by rw [hne]; rfl),cond_true,wr_succ (by omega),h2,bind_some,ih,if_pos hne]
     congr 2; omega
   · have hpos:0 < s.2.2.length:=List.length_pos_iff.2 hne
     have h2:=cnt2_loop l (by omega) hi s.2.2 [] c rfl (by omega) (by omega)
     rw [length_nil,show ((0:Nat):Int) = (0:Int) from rfl] at h2
     have ih:=cnt0_loop l hl hs suf (pre ++ [s]) (c + cntX s.2.2) (by simp [he]) (by omega)
     rw [bf (show ((s.2.2.length:Nat):Int) ≠ 0 by omega),cond_false,h2,bind_some,ih,if_neg hne]
     congr 2; omega)
theorem sumE_eq {l:List Sm} (F:Fine l):∀ r:List Sm,(∀ s ∈ r,s ∈ l) → sumE r = nIn r + sumX r
 | [],_ => rfl
 | s :: r,h => by
   rw [sumE,sumX,show nIn (s :: r) = nIn [s] + nIn r from nIn_app [s] r,nIn_one,sumE_eq F r (fun x hx => h x (List.mem_cons_of_mem _ hx))]
   have:cntX s.2.2 = cntX (xp s):=by
    by_cases hne:s.2.2 = []
    · rw [xp_nil hne,hne]
    · exact (cntX_norm _ (F.ok s (h s (List.mem_cons_self ..)) hne).1).symm
   omega
theorem netS_ok {l:List Sm} (h:(netS l).2 = 0):chk12 l = 0 ∧ pastS l = false ∧ netS l = ((opsI (nIn l) ++ opsF l l 0,rtsF l l 0,inpS l),0):=by
 unfold netS at h ⊢
 by_cases h1:chk12 l = 1
 · rw [if_pos h1] at h; cases h
 rw [if_neg h1] at h ⊢
 cases hp:pastS l
 case true => rw [hp,if_pos rfl] at h; cases h
 rw [hp,if_neg (by decide)] at h
 rw [if_neg (by decide)]
 by_cases h0:chk12 l = 0
 · rw [if_pos h0]; exact ⟨h0,rfl,rfl⟩
 · rw [if_neg h0] at h; exact absurd h h0
theorem NormCounts_eq (l:List Sm):c137 T.rf l = some true:=or137 (by
 simp only [r137,liveT,bind_some,SmallS_eq]
 cases hs:smallS l
 · rfl
 obtain ⟨h1,h2⟩:=small_S hs
 have hs':∀ s ∈ l,s.2.2.length ≤ 1000000:=fun s hs => by have:=h2 s hs; omega
 rw [Bool.not_true,cond_false,Make_eq (by omega) hs',bind_some]
 by_cases h0:(netS l).2 = 0
 case neg => rw [nbf h0,cond_true]
 obtain ⟨g1,g2,g3⟩:=netS_ok h0
 have F:=fine_of (by omega) hs' g1
 have hc:=cnt0_loop l (by omega) h2 l [] 0 rfl (by omega)
 rw [length_nil,show ((0:Nat):Int) = (0:Int) from rfl,Nat.zero_add,sumE_eq F l (fun _ h => h)] at hc
 rw [nbt h0,cond_false,hc,bind_some,g3]
 rw [bt (show (((opsI (nIn l) ++ opsF l l 0).length:Nat):Int) = ((nIn l + sumX l:Nat):Int) by rw [length_append,opsI_len,opsF_len]),cond_true,bt (show (((rtsF l l 0).length:Nat):Int) = ((l.length:Nat):Int) by rw [rtsF_len]),cond_true])
theorem lawNormCounts:LawOk T 137:=fun d _ => ⟨true,NormCounts_eq d,rfl,rfl,rfl⟩
end Go.Proofs.YtadonikkibahnaaGreat.R
