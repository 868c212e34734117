import Derived.Test.YtelpjfihadaomaaGreatDoorResRun
import Derived.Test.YtelpjfihadaomaaGreatDoorBmF
open Option (bind_some)
open List (length_append length_cons length_nil)
open Bool (and_eq_true)
section
namespace Go.Proofs.YtelpjfihadaomaaGreatDoor.R
open Go Go.Bm Go.Proofs
set_option linter.unusedVariables false
set_option linter.unusedSimpArgs false
set_option maxRecDepth 4000
theorem a1e (n:Nd):c95 T.rf n = some (kids n):=e3g (by
 obtain ⟨op,a,b,c,k,nm⟩:=n
 by_cases h1:op = 26
 · subst h1; rfl
 by_cases h2:op = 28
 · subst h2
   by_cases hb:b = -1
   · subst hb; rfl
   · simp [r95,kids,hb,nbf hb]
 by_cases h3:op = 27
 · subst h3
   by_cases ha:a = -1
   · subst ha; rfl
   · simp [r95,kids,ha,nbf ha,bf ha]
 by_cases h4:op = 4
 · subst h4; rfl
 by_cases h5:op = 5
 · subst h5; rfl
 simp only [r95,kids,bf h1,bf h2,bf h3,bf h4,bf h5,cond_false,if_neg h1,if_neg (show ¬ (op = 28 ∧ b ≠ -1) from fun h => h2 h.1),if_neg (show ¬ (op = 27 ∧ a = -1) from fun h => h3 h.1)]
 by_cases h6:6 ≤ op
 · by_cases h7:op ≤ 20
   · simp [h6,h7]
   · by_cases h8:op ≤ 25
     · simp only [dt h6,df h7,cond_true,cond_false,dt (show op ≥ 21 by omega),dt (show op ≤ 28 by omega),if_neg (show ¬ (6 ≤ op ∧ op ≤ 20) by omega),if_pos (show op = 4 ∨ op = 5 ∨ (21 ≤ op ∧ op ≤ 28) by omega)]
     · simp only [dt h6,df h7,cond_true,cond_false,dt (show op ≥ 21 by omega),df (show ¬ op ≤ 28 by omega),if_neg (show ¬ (6 ≤ op ∧ op ≤ 20) by omega),if_neg (show ¬ (op = 4 ∨ op = 5 ∨ (21 ≤ op ∧ op ≤ 28)) by omega)]
 · simp only [df (show ¬ op ≥ 6 by omega),cond_false,df (show ¬ op ≥ 21 by omega),if_neg (show ¬ (6 ≤ op ∧ op ≤ 20) by omega),if_neg (show ¬ (op = 4 ∨ op = 5 ∨ (21 ≤ op ∧ op ≤ 28)) by omega)])
theorem a5c (n:Nd) (l:List Int):c96 T.rf n l = some (aim n l):=e3h (by
 match l with
 | [] => simp [r96,aim]
 | [a] => simp [r96,aim,nth,B5,show inb 0 1 = true from rfl]
 | [a,b] =>
   by_cases h:n.1 = 28
   · simp [r96,aim,nth,h,show inb 0 2 = true from rfl,show inb 1 2 = true from rfl]
   · have e:=bf h
     simp [r96,aim,nth,h,e,show inb 0 2 = true from rfl,show inb 1 2 = true from rfl]
 | a :: b :: c :: r =>
   have h0:inb 0 (a :: b :: c :: r).length = true:=F1 (by omega) (by simp; omega)
   have h1:inb 1 (a :: b :: c :: r).length = true:=F1 (by omega) (by simp; omega)
   have h2:inb 2 (a :: b :: c :: r).length = true:=F1 (by omega) (by simp; omega)
   have g0:decide ((0:Int) < ((a :: b :: c :: r).length:Nat)) = true:=dt (by simp; omega)
   have g1:decide ((1:Int) < ((a :: b :: c :: r).length:Nat)) = true:=dt (by simp; omega)
   have g2:decide ((2:Int) < ((a :: b :: c :: r).length:Nat)) = true:=dt (by simp; omega)
   have g:((((a :: b :: c :: r).length:Nat):Int) == 2) = false:=bf (by simp; omega)
   simp only [r96,aim,h0,h1,h2,g0,g1,g2,g,cond_true,cond_false,nth,bind_some]
   cases (n.1 == 28) <;> rfl)
theorem b0K (n:Nd):c94 T.rf n = some (a0H n):=e3f (by
 have hk6:∀ m:Nd,∀ k:Int,k77 T.rb n m k = some (n,m,decide (1 ≤ n.1 ∧ n.1 ≤ 28 ∧ n = m ∧ 0 ≤ n.2.2.2.2.1 ∧ n.2.2.2.2.1 ≤ k ∧ (n.2.2.2.2.2 ≠ [] ↔ (n.1 = 3 ∨ n.1 = 27)))):=fun m k => e2w (by
  obtain ⟨p1,p2,p3,p4,p5,p6⟩:=n
  obtain ⟨q1,q2,q3,q4,q5,q6⟩:=m
  have hX:∀ X:Prop,∀ _:Decidable X,¬ X → some ((p1,p2,p3,p4,p5,p6),(q1,q2,q3,q4,q5,q6),false) = some ((p1,p2,p3,p4,p5,p6),(q1,q2,q3,q4,q5,q6),decide X):=fun X _ h => by rw [df h]
  have e:∀ c:Bool,((!(p6 == ([]:List UInt8))) == c) = decide (p6 ≠ [] ↔ c = true):=fun c => by cases p6 <;> cases c <;> simp
  simp only [b77,cond_eq_ite,decide_eq_true_eq,beq_iff_eq,and_eq_true,e]
  repeat' split
  all_goals first
   | (refine hX _ _ ?_; simp only [Prod.mk.injEq]; omega)
   | (refine hX _ _ ?_; simp only [Prod.mk.injEq]; rintro ⟨_,_,hh,_⟩; contradiction)
   | (simp only [Option.some.injEq,Prod.mk.injEq,true_and,decide_eq_decide]; constructor
      · intro h; exact ⟨by omega,by omega,by assumption,by omega,by omega,by rw [h]; first | omega | simp [*]⟩
      · rintro ⟨_,_,_,_,_,h⟩; rw [h]; first | omega | simp [*]))
 have hk5:∀ k:Int,k76 T.rb n k = some (n,decide (1 ≤ n.1 ∧ n.1 ≤ 28 ∧ n = aim (n.1,-1,-1,-1,n.2.2.2.2) (kids n) ∧ 0 ≤ n.2.2.2.2.1 ∧ n.2.2.2.2.1 ≤ k ∧ (n.2.2.2.2.2 ≠ [] ↔ (n.1 = 3 ∨ n.1 = 27)))):=fun k => e2v (by
  simp only [b76,a1e,a5c,hk6,bind_some])
 simp only [r94,hk5,bind_some,a0H,a2h]
 by_cases h1:n.1 = 1
 · simp [h1]
 by_cases h2:n.1 = 2
 · simp [h2]
 by_cases h3:n.1 = 25
 · simp [h3]
 simp only [bf h1,bf h2,bf h3,cond_false,if_neg h1,if_neg h2,if_neg h3])
theorem a6e (by_:Int):∀ (suf pre out:List Nd),out.length + suf.length ≤ 274877906944 → pre.length + suf.length ≤ 274877906944 →
  a8n T.rb out by_ (pre ++ suf) ((pre ++ suf).length:Nat) (pre.length:Nat) = some (out ++ suf.map (mv by_))
 | [],pre,out,h,h2 => c9s (by
   simp only [b8X,j9,n8,List.append_nil,cond_false,List.map_nil,List.append_nil])
 | x :: suf,pre,out,h,h2 => c9s (by
   simp only [length_cons] at h h2
   have ih:=a6e by_ suf (pre ++ [x]) (out ++ [mv by_ x]) (by simp; omega) (by simp; omega)
   simp only [List.append_assoc,List.singleton_append] at ih
   obtain ⟨op,a,b,c,n,nm⟩:=x
   simp only [b8X,g8,a5,a6,cond_true,bind_some,j5 (show out.length + 1 ≤ 274877906944 by omega),Bool.and_true,e9 pre (op,a,b,c,n,nm) (by omega)]
   rw [List.map_cons]
   refine Eq.trans ?_ ih
   simp only [mv,shift]
   by_cases ha:0 ≤ a <;> by_cases hb:0 ≤ b <;> by_cases hc:0 ≤ c <;> simp only [ge_iff_le,ha,hb,hc,decide_true,decide_false,cond_true,cond_false,if_true,if_false])
theorem b0p {out e:List Nd} (h:out.length + e.length ≤ 274877906944):c3k T.rf out e = some (out ++ e.map (mv out.length)):=d7v (by
 have:=a6e out.length e [] out h (by simp; omega)
 simp only [List.nil_append,length_nil] at this
 simp only [c4T]
 rw [show (0:Int) = ((0:Nat):Int) from rfl,this]; rfl)
theorem b0l:∀ (s t p q:List Nd),p.length = q.length → s.length = t.length → p.length + s.length < 4611686018427387904 →
  c4l T.rb (p ++ s) (q ++ t) (p.length:Nat) = some (if s = t then .inr () else .inl false)
 | [],t,p,q,h1,h2,h3 => d0m (by
   have:t = []:=List.eq_nil_of_length_eq_zero (by simpa using h2.symm)
   subst this
   simp only [b9I,j9,n8,List.append_nil,cond_false,if_true])
 | x :: s,[],p,q,h1,h2,h3 => by simp at h2
 | x :: s,y :: t,p,q,h1,h2,h3 => d0m (by
   simp only [length_cons] at h2 h3
   have ih:=b0l s t (p ++ [x]) (q ++ [y]) (by simp [h1]) (by omega) (by simp; omega)
   simp only [List.append_assoc,List.singleton_append] at ih
   have e1:inb ((p.length:Nat):Int) (q ++ y :: t).length = true:=by rw [h1]; exact a5 q y t
   have e2:nth (q ++ y :: t) ((p.length:Nat):Int).toNat = some y:=by rw [h1]; exact a6 q y t
   simp only [b9I,g8,a5,a6,e1,e2,cond_true,bind_some,e9 p x (by omega),ih]
   obtain ⟨x1,x2,x3,x4,x5,x6⟩:=x
   obtain ⟨y1,y2,y3,y4,y5,y6⟩:=y
   cases hc:(x1 == y1 && (x2 == y2 && (x3 == y3 && (x4 == y4 && (x5 == y5 && x6 == y6)))))
   · have:¬ ((x1,x2,x3,x4,x5,x6) :: s = (y1,y2,y3,y4,y5,y6) :: t):=by
      intro h
      injection h with h h'
      simp only [Prod.mk.injEq] at h
      obtain ⟨rfl,rfl,rfl,rfl,rfl,rfl⟩:=h
      simp at hc
     rw [if_neg this]; rfl
   · simp only [and_eq_true,beq_iff_eq] at hc
     obtain ⟨rfl,rfl,rfl,rfl,rfl,rfl⟩:=hc
     by_cases hst:s = t
     · rw [if_pos hst,if_pos (by rw [hst])]; rfl
     · rw [if_neg hst,if_neg (by intro h; injection h with _ h; exact hst h)]; rfl)
theorem a7j {a b:List Nd} (ha:a.length < 4611686018427387904) (hb:b.length < 4611686018427387904):b7x T.rf a b = some (decide (a = b)):=d8s (by
 simp only [c5H]
 by_cases h:a.length = b.length
 · have:=b0l a b [] [] rfl h (by simpa using ha)
   simp only [List.nil_append,length_nil] at this
   rw [nbt (by rw [h]),cond_false,show (0:Int) = ((0:Nat):Int) from rfl,this]
   by_cases e:a = b
   · rw [if_pos e,dt e]; rfl
   · rw [if_neg e,df e]; rfl
 · rw [nbf (by omega),cond_true,df (fun e => h (by rw [e]))])
def R7 (op:Int):List (List Nd) → List Nd → List Int → Int → Option (List Nd × List Int × Int)
 | [],o,ks,l => some (o,ks,l)
 | p :: r,o,ks,l => if p = [] then none else
   let o1:=o ++ p.map (mv o.length)
   if op = 27 then R7 op r (o1 ++ [(28,(o1.length:Int) - 1,l,-1,0,[])]) (ks ++ [(o1.length:Int) - 1]) o1.length
   else R7 op r o1 (ks ++ [(o1.length:Int) - 1]) l
def total:List (List Nd) → Nat
 | [] => 0
 | p :: r => p.length + 1 + total r
def R8 (op:Int) (ks:List Int) (l:Int):List Int:=if op = 27 then (if l = -1 then [] else [l]) else ks
theorem a8D {p:List Nd} (h:p ≠ []):(((p.length:Nat):Int) == 0) = false:=bf (by
 have:=List.length_pos_iff.2 h; omega)
theorem a5i (op:Int):∀ (suf pre:List (List Nd)) (o:List Nd) (ks:List Int) (l:Int),o.length + total suf ≤ 274877906944 → pre.length + suf.length ≤ 274877906944 → ks.length + suf.length ≤ 274877906944 → -1 ≤ l →
  b3i T.rb o (R8 op ks l) op (pre ++ suf) ((pre ++ suf).length:Nat) (pre.length:Nat) = some (match R7 op suf o ks l with
   | none => .inl []
   | some (o',ks',l') => .inr (o',R8 op ks' l'))
 | [],pre,o,ks,l,h,h2,h3,h4 => c9t (by
   simp only [b8Y,j9,n8,List.append_nil,cond_false,R7])
 | p :: suf,pre,o,ks,l,h,h2,h3,h4 => c9t (by
   simp only [total,length_cons] at h h2 h3
   simp only [b8Y,g8,a5,a6,cond_true,bind_some,R7]
   by_cases hp:p = []
   · subst hp; rfl
   have hp':=List.length_pos_iff.2 hp
   rw [a8D hp,cond_false,if_neg hp,b0p (by omega),bind_some]
   have hol:(o ++ p.map (mv o.length)).length = o.length + p.length:=by simp
   by_cases h27:op = 27
   · subst h27
     rw [if_pos rfl]
     have ih:=a5i 27 suf (pre ++ [p]) ((o ++ p.map (mv o.length)) ++ [(28,((o ++ p.map (mv o.length)).length:Int) - 1,l,-1,0,[])]) (ks ++ [((o ++ p.map (mv o.length)).length:Int) - 1]) (o ++ p.map (mv o.length)).length
      (by simp only [length_append,List.length_map,List.length_singleton]; omega) (by simp only [length_append,List.length_singleton]; omega) (by simp only [length_append,List.length_singleton]; omega) (by omega)
     have hk:R8 27 (ks ++ [((o ++ p.map (mv o.length)).length:Int) - 1]) (o ++ p.map (mv o.length)).length = [((o ++ p.map (mv o.length)).length:Int)]:=by
      simp only [R8,if_true]; rw [if_neg (by omega)]
     rw [hk] at ih
     simp only [List.append_assoc,List.singleton_append] at ih
     have hw:IntKind.i64.wrap (((o ++ p.map (mv o.length)).length:Int) - 1) = ((o ++ p.map (mv o.length)).length:Int) - 1:=wr (by omega)
     have hw2:∀ x:Nd,IntKind.i64.wrap ((((o ++ p.map (mv o.length)) ++ [x]).length:Int) - 1) = ((o ++ p.map (mv o.length)).length:Int):=fun x => by
      rw [wr (by simp only [length_append,List.length_map,List.length_singleton]; omega)]
      simp only [length_append,List.length_map,List.length_singleton]; omega
     have hb:Nat.ble ((o ++ p.map (mv o.length)).length + 1) j8 = true:=j5 (by omega)
     by_cases hl:l = -1
     · subst hl
       simp only [R8,if_true,Int.reduceBEq,cond_true,length_nil]
       rw [show decide (((0:Nat):Int) > 0) = false from rfl,cond_false,hb,hw,hw2,show E3 0 0 = true from rfl]
       simp only [Bool.and_true,cond_true,sub_zero,Int.toNat_zero,Nat.sub_zero,List.take_zero,length_nil,List.nil_append,j5 (show 0 + 1 ≤ 274877906944 by omega),e9 pre p (by omega)]
       simpa only [List.append_assoc,R8,if_true] using ih
     · simp only [R8,if_true,if_neg hl,Int.reduceBEq,cond_true,List.length_singleton]
       rw [show decide (((1:Nat):Int) > 0) = true from rfl,cond_true,show inb 0 1 = true from rfl,cond_true,show nth [l] 0 = some l from rfl,bind_some,hb,hw,hw2,show E3 0 1 = true from rfl]
       simp only [Bool.and_true,cond_true,sub_zero,Int.toNat_zero,Nat.sub_zero,List.take_zero,length_nil,List.nil_append,j5 (show 0 + 1 ≤ 274877906944 by omega),e9 pre p (by omega)]
       simpa only [List.append_assoc,R8,if_true] using ih
   · rw [if_neg h27,bf h27,cond_false]
     have hk:∀ ks l,R8 op ks l = ks:=fun ks l => by simp only [R8,if_neg h27]
     have ih:=a5i op suf (pre ++ [p]) (o ++ p.map (mv o.length)) (ks ++ [((o ++ p.map (mv o.length)).length:Int) - 1]) l
      (by omega) (by simp only [length_append,List.length_singleton]; omega) (by simp only [length_append,List.length_singleton]; omega) h4
     simp only [hk] at ih ⊢
     simp only [List.append_assoc,List.singleton_append] at ih
     rw [j5 (show ks.length + 1 ≤ 274877906944 by omega),wr (by omega)]
     simp only [Bool.and_true,cond_true,e9 pre p (by omega)]
     simpa only [List.append_assoc] using ih)
def join (op n:Int) (nm:List UInt8) (parts:List (List Nd)):List Nd :=
 if op = 28 then [] else if op ≠ 27 ∧ (kids (op,-1,-1,-1,n,nm)).length ≠ parts.length then [] else
 match R7 op parts [] [] (-1) with
 | none => []
 | some (o,ks,l) => o ++ [aim (op,-1,-1,-1,n,nm) (R8 op ks l)]
theorem a0C (op:Int):∀ (ps:List (List Nd)) (o:List Nd) (ks:List Int) (l:Int) (o':List Nd) (ks':List Int) (l':Int),R7 op ps o ks l = some (o',ks',l') → o'.length ≤ o.length + total ps
 | [],o,ks,l,o',ks',l',h => by simp only [R7] at h; cases h; simp [total]
 | p :: r,o,ks,l,o',ks',l',h => by
   simp only [R7] at h
   split at h
   · cases h
   split at h
   · have:=a0C op r _ _ _ _ _ _ h
     simp only [length_append,List.length_map,List.length_singleton,total] at this ⊢; omega
   · have:=a0C op r _ _ _ _ _ _ h
     simp only [length_append,List.length_map,total] at this ⊢; omega
theorem c2O {op n:Int} {nm:List UInt8} {ps:List (List Nd)} (h:total ps < 274877906944) (h2:ps.length < 274877906944):b7t T.rf op n nm ps = some (join op n nm ps):=d7u (by
 have hl:=a5i op ps [] [] [] (-1) (by simpa using by omega) (by simpa using by omega) (by simpa using by omega) (by omega)
 have hk:R8 op [] (-1) = []:=by simp [R8]
 simp only [List.nil_append,length_nil,hk] at hl
 simp only [c4S,join]
 by_cases h28:op = 28
 · rw [bt h28,cond_true,if_pos h28]
 rw [bf h28,cond_false,if_neg h28]
 have fin:(b3i T.rb [] [] op ps (ps.length:Nat) 0).bind (fun z => match z with
   | .inl u => some u
   | .inr w => (c96 T.rf (op,-1,-1,-1,n,nm) w.2).bind fun y => bif Nat.ble (w.1.length + 1) j8 && true then some (w.1 ++ [y]) else none) = some (match R7 op ps [] [] (-1) with
     | none => []
     | some (o,ks,l) => o ++ [aim (op,-1,-1,-1,n,nm) (R8 op ks l)]):=by
  rw [show (0:Int) = ((0:Nat):Int) from rfl,hl]
  cases hj:R7 op ps [] [] (-1) with
  | none => rfl
  | some x =>
    obtain ⟨o,ks,l⟩:=x
    have:=a0C op ps _ _ _ _ _ _ hj
    simp only [length_nil,Nat.zero_add] at this
    simp only [bind_some,a5c,j5 (show o.length + 1 ≤ 274877906944 by omega),Bool.and_true,cond_true]
 by_cases h27:op = 27
 · rw [nbt h27,cond_false,if_neg (by intro hh; exact hh.1 h27)]
   exact fin
 · rw [nbf h27,cond_true,a1e,bind_some]
   by_cases hn:(kids (op,-1,-1,-1,n,nm)).length = ps.length
   · rw [nbt (by rw [hn]),cond_false,if_neg (by intro hh; exact hh.2 hn)]
     exact fin
   · rw [nbf (by omega),cond_true,if_pos ⟨h27,hn⟩])
def o8 (acc:List Int):List Int → Int → Int
 | [],m => m
 | k :: ks,m => o8 acc ks (if 0 ≤ k ∧ k < acc.length then (if (acc.getD k.toNat 0) > m then acc.getD k.toNat 0 else m) else m)
def O3:List Nd → List Int → List Int
 | [],acc => acc
 | n :: r,acc => O3 r (acc ++ [o8 acc (kids n) 0 + 1])
def depth (e:List Nd):Int:=(O3 e []).getLastD 0
theorem a1X:∀ (e:List Nd) (acc:List Int),(O3 e acc).length = acc.length + e.length
 | [],acc => rfl
 | n :: r,acc => by rw [O3,a1X r]; simp; omega
theorem X2 (acc:List Int) (b:Int) (h:∀ x ∈ acc,0 ≤ x ∧ x ≤ b):∀ (ks:List Int) (m:Int),0 ≤ m → m ≤ b → 0 ≤ o8 acc ks m ∧ o8 acc ks m ≤ b
 | [],m,h0,h1 => ⟨h0,h1⟩
 | k :: ks,m,h0,h1 => by
   rw [o8]
   split
   · rename_i hk
     split
     · have hlt:k.toNat < acc.length:=by omega
       have hm:acc.getD k.toNat 0 ∈ acc:=by
        rw [List.getD_eq_getElem?_getD,List.getElem?_eq_getElem hlt]; exact List.getElem_mem hlt
       exact X2 acc b h ks _ (h _ hm).1 (h _ hm).2
     · exact X2 acc b h ks m h0 h1
   · exact X2 acc b h ks m h0 h1
def row (acc:List Int) (m:Nat):List Int:=acc ++ List.replicate m 0
theorem a4k (acc:List Int) (m:Nat) (hacc:acc.length + m ≤ 1000000):∀ (suf pre:List Int) (x:Int),pre.length + suf.length ≤ 1000 →
  k87 T.rb (acc ++ x :: List.replicate m 0) (pre ++ suf) (acc.length:Nat) ((pre ++ suf).length:Nat) (pre.length:Nat) = some (acc ++ o8 acc suf x :: List.replicate m 0,pre ++ suf)
 | [],pre,x,h => d6W (by
   simp only [b87,j9,n8,List.append_nil,cond_false,o8])
 | k :: suf,pre,x,h => d6W (by
   simp only [length_cons] at h
   have ih:=fun y => a4k acc m hacc suf (pre ++ [k]) y (by simp; omega)
   simp only [List.append_assoc,List.singleton_append] at ih
   simp only [b87,g8,a5,a6,cond_true,bind_some,o8,e9 pre k (by omega)]
   by_cases h1:0 ≤ k
   · rw [dt h1,cond_true]
     by_cases h2:k < acc.length
     · have hlen:(acc ++ x :: List.replicate m 0).length = acc.length + (m + 1):=by simp
       have hk:nth (acc ++ x :: List.replicate m 0) k.toNat = some (acc.getD k.toNat 0):=by
        have hlt:k.toNat < acc.length:=by omega
        rw [nth_getElem?,List.getElem?_append_left hlt,List.getD_eq_getElem?_getD,List.getElem?_eq_getElem hlt]; rfl
       have hb:Nat.blt ((acc.length:Nat):Int).toNat (acc ++ x :: List.replicate m 0).length = true:=a0v (by rw [hlen]; simp)
       rw [dt h2,cond_true,if_pos ⟨h1,h2⟩]
       rw [show inb k (acc ++ x :: List.replicate m 0).length = true from F1 h1 (by rw [hlen]; omega)]
       simp only [cond_true,hk,bind_some,a5,a6,hb]
       have hset:∀ y,l9 (acc ++ x :: List.replicate m 0) ((acc.length:Nat):Int).toNat y = acc ++ y :: List.replicate m 0:=fun y => by
        rw [E5,Int.toNat_natCast,List.set_append_right _ _ (Nat.le_refl _),Nat.sub_self,List.set_cons_zero]
       rw [hset]
       exact ih _
     · rw [df h2,cond_false,if_neg (by omega)]
       exact ih x
   · rw [df h1,cond_false,if_neg (by omega)]
     exact ih x)
theorem a4j:∀ (suf pre:List Nd) (acc:List Int),acc.length = pre.length → pre.length + suf.length ≤ 1000000 → (∀ x ∈ acc,0 ≤ x ∧ x ≤ acc.length) →
  k86 T.rb (row acc suf.length) (pre ++ suf) ((pre ++ suf).length:Nat) (pre.length:Nat) = some (O3 suf acc)
 | [],pre,acc,h,h2,h3 => d6V (by
   simp [b86,n8,O3,row])
 | n :: suf,pre,acc,h,h2,h3 => d6V (by
   simp only [length_cons] at h2
   have hd:=X2 acc acc.length h3 (kids n) 0 (by omega) (by omega)
   have ih:=a4j suf (pre ++ [n]) (acc ++ [o8 acc (kids n) 0 + 1]) (by simp [h]) (by simp; omega) (fun x hx => by
    rcases List.mem_append.1 hx with hx | hx
    · have:=h3 x hx; simp; omega
    · simp only [List.mem_singleton] at hx; subst hx; simp; omega)
   simp only [List.append_assoc,List.singleton_append] at ih
   have hrow:row acc (n :: suf).length = acc ++ (0:Int) :: List.replicate suf.length 0:=by simp [row,List.replicate_succ]
   have hl:=a4k acc suf.length (by omega) (kids n) [] 0 (by have:=I4 n; simp; omega)
   simp only [List.nil_append,length_nil] at hl
   rw [show ((0:Nat):Int) = 0 from rfl] at hl
   have hb:Nat.blt ((acc.length:Nat):Int).toNat (acc ++ o8 acc (kids n) 0 :: List.replicate suf.length 0).length = true:=a0v (by simp)
   have hset:∀ y,l9 (acc ++ o8 acc (kids n) 0 :: List.replicate suf.length 0) ((acc.length:Nat):Int).toNat y = acc ++ y :: List.replicate suf.length 0:=fun y => by
    rw [E5,Int.toNat_natCast,List.set_append_right _ _ (Nat.le_refl _),Nat.sub_self,List.set_cons_zero]
   simp only [b86,g8,a5,a6,cond_true,bind_some,a1e,hrow]
   rw [← h,hl]
   simp only [bind_some,a5,a6,cond_true,hb,hset]
   rw [wr (by omega)]
   rw [h,e9 pre n (by omega)]
   have e2:acc ++ (o8 acc (kids n) 0 + 1) :: List.replicate suf.length 0 = row (acc ++ [o8 acc (kids n) 0 + 1]) suf.length:=by simp [row]
   rw [e2,O3]
   exact ih)
theorem b8H {e:List Nd} (h:e.length ≤ 1000000):c99 T.rf e = some (depth e):=e3k (by
 simp only [r99]
 by_cases he:e = []
 · subst he; rfl
 rw [a8D he,cond_false]
 have hd:d1n T.rf e = some (O3 e []):=d6X (by
  have hl:=a4j e [] [] rfl (by simpa using h) (fun x hx => by cases hx)
  simp only [List.nil_append,length_nil,row] at hl
  simp only [c4H,N8,dt (show e.length ≤ j8 by unfold j8; omega),dt (Nat.le_refl e.length),cond_true]
  rw [show (0:Int) = ((0:Nat):Int) from rfl]
  rw [show ((0:Nat):Int) = (0:Int) from rfl] at hl
  rw [show ((0:Nat):Int) = (0:Int) from rfl,hl]; rfl)
 have hlen:(O3 e []).length = e.length:=by rw [a1X]; simp
 have hpos:=List.length_pos_iff.2 he
 rw [hd,bind_some,a3L he (by omega),B5,dt (by omega),cond_true,Int.toNat_natCast,a1D (by omega),bind_some]
 simp only [depth,Option.some.injEq]
 rw [List.getLastD_eq_getLast?,List.getLast?_eq_getElem?,List.getElem?_eq_getElem (by omega)]
 simp [hlen])
def a7a (e:List Nd) (k:Nat):Int:=(e.getD k (0,0,0,0,0,[])).1
def a9N (e:List Nd) (n:Nd) (at_:Nat) (k:Int):Bool:=decide (a7a e k.toNat = 28) == (decide (n.1 = 27) || (decide (n.1 = 28) && (decide (n.2.2.1 ≠ -1) && decide (at_ = 0))))
def a3D (e:List Nd) (n:Nd) (i:Nat):List Int → Nat → List Nat → Option (List Nat)
 | [],_,V => some V
 | k :: ks,a,V => if 0 ≤ k ∧ k < i ∧ k.toNat ∉ V ∧ a9N e n a k = true then a3D e n i ks (a + 1) (V ++ [k.toNat]) else none
def scan (e:List Nd):List Nd → Nat → List Nat → Option (List Nat)
 | [],_,V => some V
 | n :: r,i,V => if a0H n = true then match a3D e n i (kids n) 0 V with
    | some V' => scan e r (i + 1) V'
    | none => none
   else none
def s8 (e:List Nd):Bool:=decide (e ≠ []) && (decide (e.length ≤ 5000) && (decide (a7a e (e.length - 1) ≠ 28) && (match scan e e 0 [] with
 | none => false
 | some V => (List.range (e.length - 1)).all (fun j => decide (j ∈ V)) && decide (depth e ≤ 40))))
def C8 (N:Nat) (V:List Nat):List Bool:=(List.range N).map fun j => decide (j ∈ V)
theorem V8 (N:Nat) (V:List Nat):(C8 N V).length = N:=by simp [C8]
theorem b1m {N:Nat} {V:List Nat} {k:Nat} (h:k < N):nth (C8 N V) k = some (decide (k ∈ V)):=by
 rw [nth_getElem?,C8,List.getElem?_map,List.getElem?_range h]; rfl
theorem b8F {N:Nat} {V:List Nat} {k:Nat} (h:k < N):l9 (C8 N V) k true = C8 N (V ++ [k]):=by
 rw [E5]
 apply List.ext_getElem?
 intro j
 rw [List.getElem?_set]
 by_cases hj:j < N
 · simp only [C8,List.getElem?_map,List.getElem?_range hj,List.length_map,List.length_range]
   by_cases e:k = j
   · subst e; simp [h]
   · simp [e,Ne.symm e]
 · have hne:k ≠ j:=by omega
   rw [if_neg hne,List.getElem?_eq_none (by rw [V8]; omega),List.getElem?_eq_none (by rw [V8]; omega)]
theorem a4F {e:List Nd} {k:Nat} (h:k < e.length):∃ x,nth e k = some x ∧ x.1 = a7a e k:=by
 refine ⟨e[k],a1D h,?_⟩
 rw [a7a,List.getD_eq_getElem?_getD,List.getElem?_eq_getElem h]; rfl
theorem b0i (e:List Nd) (n:Nd) (i:Nat) (hi:i < e.length) (hN:e.length ≤ 1000000):∀ (suf pre:List Int) (V:List Nat),pre.length + suf.length ≤ 1000 →
  match a3D e n i suf pre.length V with
  | some V' => k78 T.rb (C8 e.length V) n (pre ++ suf) e (i:Nat) ((pre ++ suf).length:Nat) (pre.length:Nat) = some (.inr (C8 e.length V',n,pre ++ suf))
  | none => ∃ u,k78 T.rb (C8 e.length V) n (pre ++ suf) e (i:Nat) ((pre ++ suf).length:Nat) (pre.length:Nat) = some (.inl (u,n,pre ++ suf,false))
 | [],pre,V,h => c4B (by
   simp only [b78,j9,n8,List.append_nil,cond_false])
 | k :: suf,pre,V,h => by
   simp only [length_cons] at h
   have ih:=b0i e n i hi hN suf (pre ++ [k]) (V ++ [k.toNat]) (by simp; omega)
   have hpl:(pre ++ [k]).length = pre.length + 1:=by simp
   simp only [List.append_assoc,List.singleton_append] at ih
   rw [hpl] at ih
   have fall:∀ {u},b78 T.rf T.rb (C8 e.length V) n (pre ++ k :: suf) e (i:Nat) ((pre ++ k :: suf).length:Nat) (pre.length:Nat) = some (.inl (u,n,pre ++ k :: suf,false)) →
    ∃ u,k78 T.rb (C8 e.length V) n (pre ++ k :: suf) e (i:Nat) ((pre ++ k :: suf).length:Nat) (pre.length:Nat) = some (.inl (u,n,pre ++ k :: suf,false)):=fun h => ⟨_,c4B h⟩
   rw [a3D]
   by_cases h1:0 ≤ k
   case neg =>
    rw [if_neg (by omega)]
    refine fall (u:=C8 e.length V) ?_
    simp only [b78,g8,a5,a6,cond_true,bind_some,dt (show k < 0 by omega)]
   by_cases h2:k < i
   case neg =>
    rw [if_neg (by omega)]
    refine fall (u:=C8 e.length V) ?_
    simp only [b78,g8,a5,a6,cond_true,bind_some,df (show ¬ k < 0 by omega),cond_false,dt (show k ≥ i by omega)]
   have hk:k.toNat < e.length:=by omega
   have hin:inb k (C8 e.length V).length = true:=F1 h1 (by rw [V8]; omega)
   by_cases h3:k.toNat ∈ V
   · rw [if_neg (by intro hh; exact hh.2.2.1 h3)]
     refine fall (u:=C8 e.length V) ?_
     simp only [b78,g8,a5,a6,cond_true,bind_some,df (show ¬ k < 0 by omega),cond_false,df (show ¬ k ≥ i by omega),hin,b1m hk,dt h3]
   have hine:inb k e.length = true:=F1 h1 (by omega)
   obtain ⟨x,hx,hxo⟩:=a4F hk
   have hbl:Nat.blt k.toNat (C8 e.length V).length = true:=a0v (by rw [V8]; exact hk)
   have hnext:IntKind.i64.wrap (((pre.length:Nat):Int) + 1) = ((pre.length + 1:Nat):Int):=H5 (by omega)
   have hbody:b78 T.rf T.rb (C8 e.length V) n (pre ++ k :: suf) e (i:Nat) ((pre ++ k :: suf).length:Nat) (pre.length:Nat) =
     if a9N e n pre.length k = true then k78 T.rb (C8 e.length (V ++ [k.toNat])) n (pre ++ k :: suf) e (i:Nat) ((pre ++ k :: suf).length:Nat) ((pre.length + 1:Nat):Int)
     else some (.inl (C8 e.length (V ++ [k.toNat]),n,pre ++ k :: suf,false)):=by
    simp only [b78,g8,a5,a6,cond_true,bind_some,df (show ¬ k < 0 by omega),cond_false,df (show ¬ k ≥ i by omega),hin,b1m hk,df h3,hbl,hine,hx,b8F hk,hnext,a9N,← hxo]
    have hp0:(((pre.length:Nat):Int) == 0) = decide (pre.length = 0):=by
     by_cases e:pre.length = 0
     · rw [dt e,bt (by omega)]
     · rw [df e,bf (by omega)]
    have hx28:(x.1 == 28) = decide (x.1 = 28):=by
     by_cases e:x.1 = 28
     · rw [dt e,bt e]
     · rw [df e,bf e]
    rw [hp0,hx28]
    by_cases e27:n.1 = 27
    · simp only [bt e27,cond_true,dt e27,Bool.true_or]
      cases decide (x.1 = 28) <;> simp
    · by_cases e28:n.1 = 28
      · by_cases eb:n.2.2.1 = -1
        · simp only [bf e27,bt e28,cond_true,cond_false,nbt eb,dt e28,df e27,df (show ¬ (n.2.2.1 ≠ -1) from fun h => h eb),Bool.false_or,Bool.true_and,Bool.false_and]
          cases decide (x.1 = 28) <;> simp
        · simp only [bf e27,bt e28,cond_true,cond_false,nbf eb,dt e28,df e27,dt (show n.2.2.1 ≠ -1 from eb),Bool.false_or,Bool.true_and]
          cases decide (x.1 = 28) <;> cases decide (pre.length = 0) <;> simp
      · simp only [bf e27,bf e28,cond_false,df e28,df e27,Bool.false_or,Bool.false_and]
        cases decide (x.1 = 28) <;> simp
   by_cases h4:a9N e n pre.length k = true
   · rw [if_pos ⟨h1,h2,h3,h4⟩]
     rw [if_pos h4] at hbody
     cases hs:a3D e n i suf (pre.length + 1) (V ++ [k.toNat]) with
     | none =>
       rw [hs] at ih
       obtain ⟨u,ih⟩:=ih
       exact ⟨u,c4B (hbody.trans ih)⟩
     | some V' =>
       rw [hs] at ih
       dsimp only at ih ⊢
       exact c4B (hbody.trans ih)
   · rw [if_neg (by intro hh; exact h4 hh.2.2.2)]
     rw [if_neg h4] at hbody
     exact fall hbody
theorem b0h (e:List Nd) (hN:e.length ≤ 1000000):∀ (suf pre:List Nd) (V:List Nat),e = pre ++ suf →
  match scan e suf pre.length V with
  | some V' => k75 T.rb (C8 e.length V) e e (e.length:Nat) (pre.length:Nat) = some (.inr (C8 e.length V'))
  | none => ∃ u,k75 T.rb (C8 e.length V) e e (e.length:Nat) (pre.length:Nat) = some (.inl (u,false))
 | [],pre,V,h => c1k (by
   subst h
   simp only [b75,j9,n8,List.append_nil,cond_false])
 | n :: suf,pre,V,h => by
   have ih:=fun V' => b0h e hN suf (pre ++ [n]) V' (by rw [h]; simp)
   have hlt:pre.length < e.length:=by rw [h]; simp
   have hl2:=b0i e n pre.length hlt hN (kids n) [] V (by have:=I4 n; simp; omega)
   simp only [List.nil_append,length_nil] at hl2
   have a1:decide (((pre.length:Nat):Int) < ((e.length:Nat):Int)) = true:=dt (by omega)
   have a2:inb ((pre.length:Nat):Int) e.length = true:=F1 (by omega) (by omega)
   have a3:nth e ((pre.length:Nat):Int).toNat = some n:=by rw [h]; exact a6 pre n suf
   have a4:IntKind.i64.wrap (((pre.length:Nat):Int) + 1) = ((pre ++ [n]).length:Nat):=e9 pre n (by omega)
   rw [scan]
   cases hn:a0H n with
   | false =>
     rw [if_neg (by decide)]
     exact ⟨_,c1k (by
      simp only [b75,a1,a2,a3,cond_true,bind_some,b0K,hn,Bool.not_false]
      rfl)⟩
   | true =>
     rw [if_pos rfl]
     have hbody:b75 T.rf T.rb (C8 e.length V) e e (e.length:Nat) (pre.length:Nat) = (k78 T.rb (C8 e.length V) n (kids n) e (pre.length:Nat) ((kids n).length:Nat) ((0:Nat):Int)).bind fun z => match z with
       | .inl u => some (.inl (u.1,u.2.2.2))
       | .inr w => k75 T.rb w.1 e e (e.length:Nat) ((pre ++ [n]).length:Nat):=by
      simp only [b75,a1,a2,a3,cond_true,cond_false,bind_some,b0K,hn,Bool.not_true,a1e,a4]
      rfl
     cases hs:a3D e n pre.length (kids n) 0 V with
     | none =>
       rw [hs] at hl2
       obtain ⟨u,hl2⟩:=hl2
       exact ⟨u,c1k (by rw [hbody,hl2]; rfl)⟩
     | some V' =>
       rw [hs] at hl2
       have ih:=ih V'
       rw [length_append,List.length_singleton] at ih
       dsimp only at hl2 ⊢
       cases hs2:scan e suf (pre.length + 1) V' with
       | none =>
         rw [hs2] at ih
         obtain ⟨u,ih⟩:=ih
         exact ⟨u,c1k (by rw [hbody,hl2,bind_some,length_append,List.length_singleton]; exact ih)⟩
       | some V2 =>
         rw [hs2] at ih
         exact c1k (by rw [hbody,hl2,bind_some,length_append,List.length_singleton]; exact ih)
theorem a5X (b:Bool):∀ (suf pre:List Bool),pre.length + suf.length ≤ 1000000 →
  ∃ z,k79 T.rb (pre ++ suf) b ((pre ++ suf).length:Nat) (pre.length:Nat) = some z ∧ (match z with
   | .inl j => 0 ≤ j ∧ b ∈ suf
   | .inr _ => b ∉ suf)
 | [],pre,h => ⟨.inr (),d2i (by simp only [b79,j9,n8,List.append_nil,cond_false]),by simp⟩
 | x :: suf,pre,h => by
   simp only [length_cons] at h
   obtain ⟨z,ih,hz⟩:=a5X b suf (pre ++ [x]) (by simp; omega)
   simp only [List.append_assoc,List.singleton_append] at ih
   by_cases hx:b = x
   · refine ⟨.inl (pre.length:Nat),d2i ?_,by omega,by simp [hx]⟩
     simp only [b79,g8,a5,a6,cond_true,bind_some,beq_iff_eq.2 hx]
   · refine ⟨z,d2i ?_,?_⟩
     · simp only [b79,g8,a5,a6,cond_true,cond_false,bind_some,beq_eq_false_iff_ne.2 hx,e9 pre x (by omega)]
       exact ih
     · cases z with
       | inl j => exact ⟨hz.1,List.mem_cons_of_mem _ hz.2⟩
       | inr j => simp only [List.mem_cons,not_or]; exact ⟨hx,hz⟩
theorem b1q {l:List Bool} (b:Bool) (h:l.length ≤ 1000000):c97 T.rf l b = some (decide (b ∈ l)):=e3i (by
 obtain ⟨z,hz,hp⟩:=a5X b l [] (by simpa using h)
 simp only [List.nil_append,length_nil] at hz
 have hI:∀ z,k79 T.rb l b (l.length:Nat) 0 = some z → c98 T.rf l b = some (match z with
   | .inl j => j
   | .inr _ => -1):=fun z hz => e3j (by
  simp only [r98,hz]
  cases z <;> rfl)
 simp only [r97,hI z hz,bind_some]
 cases z with
 | inl j => rw [dt (show (j:Int) ≥ 0 from hp.1),dt hp.2]
 | inr j => rw [df (show ¬ ((-1:Int) ≥ 0) by decide),df hp])
theorem a7z {e:List Nd} (h:e.length ≤ 1000000):c93 T.rf e = some (s8 e):=e3e (by
 simp only [r93,s8]
 by_cases he:e = []
 · subst he; rfl
 have hpos:=List.length_pos_iff.2 he
 rw [a8D he,cond_false,dt he,Bool.true_and]
 by_cases hl:e.length ≤ 5000
 case neg => rw [dt (show ((e.length:Nat):Int) > 5000 by omega),cond_true,df hl,Bool.false_and]
 rw [df (show ¬ ((e.length:Nat):Int) > 5000 by omega),cond_false,dt hl,Bool.true_and]
 obtain ⟨x,hx,hxo⟩:=a4F (e:=e) (k:=e.length - 1) (by omega)
 rw [a3L he (by omega),B5,dt (show e.length - 1 < e.length by omega),cond_true,Int.toNat_natCast,hx,bind_some]
 by_cases h28:x.1 = 28
 · rw [bt h28,cond_true,df (show ¬ (a7a e (e.length - 1) ≠ 28) from fun g => g (hxo ▸ h28)),Bool.false_and]
 rw [bf h28,cond_false,dt (show a7a e (e.length - 1) ≠ 28 from hxo ▸ h28),Bool.true_and,N8,dt (show e.length ≤ j8 by unfold j8; omega),cond_true,N8,dt (Nat.le_refl _),cond_true]
 have h0:=b0h e (by omega) e [] [] rfl
 have hu:C8 e.length [] = List.replicate e.length false:=by
  apply List.ext_getElem?
  intro j
  simp only [C8,List.getElem?_map,List.getElem?_replicate]
  by_cases hj:j < e.length
  · rw [List.getElem?_range hj,if_pos hj]; simp
  · rw [List.getElem?_eq_none (by simp; omega),if_neg hj]; rfl
 rw [hu] at h0
 simp only [length_nil] at h0
 rw [show ((0:Nat):Int) = (0:Int) from rfl] at h0
 cases hs:scan e e 0 [] with
 | none =>
   rw [hs] at h0
   obtain ⟨u,h0⟩:=h0
   rw [h0]; rfl
 | some V =>
   rw [hs] at h0
   rw [h0]
   simp only [bind_some,V8,N8,dt (show e.length - 1 ≤ e.length by omega),cond_true,sub_zero,Nat.sub_zero]
   have hlen:((C8 e.length V).take (e.length - 1)).length ≤ 1000000:=by simp [V8]; omega
   rw [b1q false hlen,bind_some]
   have hall:decide (false ∈ (C8 e.length V).take (e.length - 1)) = !((List.range (e.length - 1)).all fun j => decide (j ∈ V)):=by
    have key:false ∈ (C8 e.length V).take (e.length - 1) ↔ ∃ j,j < e.length - 1 ∧ j ∉ V:=by
     rw [List.mem_iff_getElem?]
     constructor
     · rintro ⟨j,hj⟩
       rw [List.getElem?_take] at hj
       split at hj
       · rename_i hlt
         rw [C8,List.getElem?_map,List.getElem?_range (by omega)] at hj
         exact ⟨j,hlt,by simpa using hj⟩
       · cases hj
     · rintro ⟨j,hlt,hj⟩
       refine ⟨j,?_⟩
       rw [List.getElem?_take,if_pos hlt,C8,List.getElem?_map,List.getElem?_range (by omega)]
       simpa using hj
    cases hc:(List.range (e.length - 1)).all fun j => decide (j ∈ V)
    · refine dt (key.2 ?_)
      rw [List.all_eq_false] at hc
      obtain ⟨j,h1,h2⟩:=hc
      exact ⟨j,List.mem_range.1 h1,by simpa using h2⟩
    · refine df (fun hh => ?_)
      obtain ⟨j,h1,h2⟩:=key.1 hh
      rw [List.all_eq_true] at hc
      exact h2 (by simpa using hc j (List.mem_range.2 h1))
   rw [hall,Bool.not_not]
   cases (List.range (e.length - 1)).all fun j => decide (j ∈ V)
   · rfl
   · rw [cond_true,b8H (by omega),bind_some,Bool.true_and])
theorem eqm (x y:Int):(x == y) = decide (x = y):=by
 by_cases e:x = y
 · rw [dt e,bt e]
 · rw [df e,bf e]
theorem a2n (n:Nd):d1J T.rf n = some (decide (0 ≤ n.2.2.2.2.1 ∧ n.2.2.2.2.1 ≤ a2h n.1 ∧ (n.2.2.2.2.2 ≠ [] ↔ (n.1 = 3 ∨ n.1 = 27)))):=d7S (by
 obtain ⟨op,a,b,c,k,nm⟩:=n
 have e:∀ c:Bool,((!(nm == ([]:List UInt8))) == c) = decide (nm ≠ [] ↔ c = true):=fun c => by cases nm <;> cases c <;> simp
 simp only [c5m,e,a2h,eqm]
 have key:∀ (Q:Prop) [Decidable Q] (P:Prop) [Decidable P] (M:Int),(P ↔ (0 ≤ k ∧ k ≤ M)) → (Q ↔ (nm ≠ [] ↔ (op = 3 ∨ op = 27))) → ∀ x:Option Bool,x = some (decide P) → (bif !decide Q then some false else x) = some (decide (0 ≤ k ∧ k ≤ M ∧ (nm ≠ [] ↔ (op = 3 ∨ op = 27)))):=by
  intro Q _ P _ M h1 h2 x hx
  by_cases hq:Q
  · rw [dt hq,Bool.not_true,cond_false,hx]
    by_cases hp:P
    · rw [dt hp,dt ⟨(h1.1 hp).1,(h1.1 hp).2,h2.1 hq⟩]
    · rw [df hp,df (fun hh => hp (h1.2 ⟨hh.1,hh.2.1⟩))]
  · rw [df hq,Bool.not_false,cond_true,df (fun hh => hq (h2.2 hh.2.2))]
 have two:∀ M:Int,(bif decide (k ≥ 0) then some (decide (k ≤ M)) else some false) = some (decide (0 ≤ k ∧ k ≤ M)):=fun M => by
  by_cases h0:0 ≤ k
  · rw [dt (show k ≥ 0 from h0),cond_true]; simp [h0]
  · rw [df (show ¬ k ≥ 0 from h0),cond_false]; simp [h0]
 by_cases h3:op = 3
 · subst h3
   exact key _ (k = 0) 0 (by omega) (by simp) _ rfl
 by_cases h27:op = 27
 · subst h27
   exact key _ (k = 0) 0 (by omega) (by simp) _ rfl
 rw [df h3,cond_false,df h27]
 by_cases h1:op = 1
 · subst h1
   exact key _ (0 ≤ k ∧ k ≤ 2147483647) 2147483647 Iff.rfl (by simp) _ (two _)
 by_cases h2:op = 2
 · subst h2
   refine key _ (0 ≤ k ∧ k ≤ 1) 1 Iff.rfl (by simp) _ ?_
   by_cases h0:k = 0
   · subst h0; rfl
   · rw [df (show ¬ (2:Int) = 1 by decide),cond_false,dt rfl,cond_true,df h0,cond_false]
     by_cases h1:k = 1
     · subst h1; rfl
     · rw [df h1,df (by omega)]
 by_cases h25:op = 25
 · subst h25
   exact key _ (0 ≤ k ∧ k ≤ 1000) 1000 Iff.rfl (by simp) _ (two _)
 rw [df h1,df h2,df h25,if_neg h1,if_neg h2,if_neg h25]
 exact key _ (k = 0) 0 (by omega) (by simp [h3,h27]) _ rfl)
def R4 (e:List Nd) (n:Nd):List Int → Nat → Bool
 | [],_ => true
 | k :: ks,a => a9N e n a k && R4 e n ks (a + 1)
theorem c0O (n:Nd) (h:n.1 = 28):(kids n).length = 2 ↔ n.2.2.1 ≠ -1:=by
 obtain ⟨op,a,b,c,k,nm⟩:=n
 simp only at h
 subst h
 by_cases hb:b = -1
 · subst hb; simp [kids]
 · simp [kids,hb]
def Q6 (i:Nat) (ks:List Int):Bool:=ks.all fun k => decide (0 ≤ k ∧ k < i)
def E7 (e:List Nd):List Nd → Nat → List Nat → Option (List Nat)
 | [],_,V => some V
 | n :: r,i,V => if a0H n = true ∧ Q6 i (kids n) = true ∧ R4 e n (kids n) 0 = true then E7 e r (i + 1) (V ++ (kids n).map Int.toNat) else none
theorem a2Y:∀ l:List Nat,l.Nodup ↔ ∀ j,l.count j ≤ 1
 | [] => by simp
 | a :: l => by
   rw [List.nodup_cons,a2Y l]
   constructor
   · rintro ⟨h1,h2⟩ j
     rw [List.count_cons]
     by_cases e:a = j
     · subst e; rw [List.count_eq_zero.2 h1]; simp
     · simp [e,h2 j]
   · intro h
     refine ⟨fun hm => ?_,fun j => ?_⟩
     · have:=h a
       rw [List.count_cons_self] at this
       have:=List.count_pos_iff.2 hm
       omega
     · have:=h j
       rw [List.count_cons] at this
       omega
theorem a5R (e:List Nd) (n:Nd) (i:Nat):∀ (ks:List Int) (a:Nat) (V V':List Nat),V.Nodup → (a3D e n i ks a V = some V' ↔ Q6 i ks = true ∧ R4 e n ks a = true ∧ V' = V ++ ks.map Int.toNat ∧ V'.Nodup)
 | [],a,V,V',hV => by
   simp only [a3D,Q6,R4,List.all_nil,List.map_nil,List.append_nil,true_and,Option.some.injEq]
   constructor
   · rintro rfl; exact ⟨rfl,hV⟩
   · rintro ⟨rfl,_⟩; rfl
 | k :: ks,a,V,V',hV => by
   rw [a3D]
   split
   · rename_i h
     have hV2:(V ++ [k.toNat]).Nodup:=List.nodup_append.2 ⟨hV,by simp,fun x hx y hy => by simp at hy; subst hy; intro e; subst e; exact h.2.2.1 hx⟩
     rw [a5R e n i ks (a + 1) (V ++ [k.toNat]) V' hV2]
     simp [Q6,R4,h.1,h.2.1,h.2.2.2]
   · rename_i h
     constructor
     · intro hh; cases hh
     · rintro ⟨h1,h2,h3,h4⟩
       exfalso
       simp only [Q6,List.all_cons,and_eq_true,decide_eq_true_eq] at h1
       simp only [R4,and_eq_true] at h2
       refine h ⟨h1.1.1,h1.1.2,fun hm => ?_,h2.1⟩
       rw [h3] at h4
       exact (List.nodup_append.1 h4).2.2 _ hm _ (by simp) rfl
theorem a3d (e:List Nd):∀ (r:List Nd) (i:Nat) (V V':List Nat),E7 e r i V = some V' → ∃ W,V' = V ++ W
 | [],i,V,V',h => by cases h; exact ⟨[],by simp⟩
 | n :: r,i,V,V',h => by
   rw [E7] at h
   split at h
   · obtain ⟨W,rfl⟩:=a3d e r _ _ _ h
     exact ⟨(kids n).map Int.toNat ++ W,by simp⟩
   · cases h
theorem a2F (e:List Nd):∀ (r:List Nd) (i:Nat) (V V':List Nat),V.Nodup → (scan e r i V = some V' ↔ E7 e r i V = some V' ∧ V'.Nodup)
 | [],i,V,V',hV => by
   simp only [scan,E7,Option.some.injEq]
   constructor
   · rintro rfl; exact ⟨rfl,hV⟩
   · exact fun h => h.1
 | n :: r,i,V,V',hV => by
   rw [scan,E7]
   by_cases hn:a0H n = true
   case neg => rw [if_neg hn,if_neg (fun h => hn h.1)]; simp
   rw [if_pos hn]
   cases hs:a3D e n i (kids n) 0 V with
   | some V1 =>
     obtain ⟨g1,g2,g3,g4⟩:=(a5R e n i (kids n) 0 V V1 hV).1 hs
     rw [if_pos ⟨hn,g1,g2⟩]
     subst g3
     exact a2F e r (i + 1) _ V' g4
   | none =>
     constructor
     · intro h; cases h
     · rintro ⟨h,hd⟩
       split at h
       · rename_i hc
         obtain ⟨W,rfl⟩:=a3d e r _ _ _ h
         have:=(a5R e n i (kids n) 0 V (V ++ (kids n).map Int.toNat) hV).2 ⟨hc.2.1,hc.2.2,rfl,(List.nodup_append.1 hd).1⟩
         rw [hs] at this; cases this
       · cases h
theorem a9m (e:List Nd) (m:Nat):∀ (r:List Nd) (i:Nat) (V V':List Nat),E7 e r i V = some V' → (∀ x ∈ V,x < m) → i + r.length ≤ m + 1 → ∀ x ∈ V',x < m
 | [],i,V,V',h,hV,hm => by cases h; exact hV
 | n :: r,i,V,V',h,hV,hm => by
   rw [E7] at h
   simp only [length_cons] at hm
   split at h
   · rename_i hc
     refine a9m e m r (i + 1) _ V' h (fun x hx => ?_) (by omega)
     rcases List.mem_append.1 hx with hx | hx
     · exact hV x hx
     · obtain ⟨k,hk,rfl⟩:=List.mem_map.1 hx
       have:=List.all_eq_true.1 hc.2.1 k hk
       simp only [decide_eq_true_eq] at this
       omega
   · cases h
def nd0:Nd:=(0,0,0,0,0,[])
def a1L (g:Int → List Nd → List Nd):List Int → List Nd → List Int → List Nd × List Int
 | [],o,ks => (o,ks)
 | k :: r,o,ks => a1L g r (g k o) (ks ++ [((g k o).length:Int) - 1])
def ord (e:List Nd):Nat → Int → List Nd → List Nd
 | 0,_,o => o
 | f + 1,i,o => (a1L (ord e f) (kids (e.getD i.toNat nd0)) o []).1 ++ [aim (e.getD i.toNat nd0) (a1L (ord e f) (kids (e.getD i.toNat nd0)) o []).2]
def szL (g:Int → Nat):List Int → Nat
 | [] => 0
 | k :: r => g k + szL g r
def sz (e:List Nd):Nat → Int → Nat
 | 0,_ => 0
 | f + 1,i => 1 + szL (sz e f) (kids (e.getD i.toNat nd0))
def a7r (e:List Nd):Prop:=∀ (i:Nat) (n:Nd),nth e i = some n → ∀ k ∈ kids n,0 ≤ k ∧ k < i
theorem a3g {g h:Int → Nat}:∀ {ks:List Int},(∀ k ∈ ks,g k = h k) → szL g ks = szL h ks
 | [],_ => rfl
 | k :: r,hh => by rw [szL,szL,hh k List.mem_cons_self,a3g fun q hq => hh q (List.mem_cons_of_mem _ hq)]
theorem X9 {e:List Nd} {i:Nat} (h:i < e.length):nth e i = some (e.getD i nd0):=by
 rw [a1D h,List.getD_eq_getElem?_getD,List.getElem?_eq_getElem h]; rfl
theorem a7p {e:List Nd} (hA:a7r e):∀ (f i:Nat),i < f → i < e.length → sz e f (i:Int) = sz e (i + 1) (i:Int)
 | 0,i,h,_ => by omega
 | f + 1,i,h,hi => by
   rw [sz,sz]
   congr 1
   refine a3g fun k hk => ?_
   rw [Int.toNat_natCast] at hk
   have:=hA i _ (X9 hi) k hk
   obtain ⟨j,rfl⟩:∃ j:Nat,k = j:=⟨k.toNat,by omega⟩
   rw [a7p hA f j (by omega) (by omega),a7p hA i j (by omega) (by omega)]
 termination_by f => f
def a1J (S:Nat → Nat) (V:List Nat):Nat → Nat
 | 0 => 0
 | i + 1 => a1J S V i + if i ∈ V then 0 else S i
theorem b2E (S:Nat → Nat) (V:List Nat) (k:Nat) (hk:k ∉ V):∀ i,a1J S (V ++ [k]) i + (if k < i then S k else 0) = a1J S V i
 | 0 => by simp [a1J]
 | i + 1 => by
   have ih:=b2E S V k hk i
   simp only [a1J,List.mem_append,List.mem_singleton]
   by_cases e:i = k
   · subst e
     rw [if_neg (by omega)] at ih
     simp [hk]; omega
   · by_cases hV:i ∈ V
     · simp only [hV,true_or,if_true]
       by_cases hlt:k < i
       · rw [if_pos hlt] at ih; rw [if_pos (by omega)]; omega
       · rw [if_neg hlt] at ih; rw [if_neg (by omega)]; omega
     · simp only [hV,e,or_self,if_false]
       by_cases hlt:k < i
       · rw [if_pos hlt] at ih; rw [if_pos (by omega)]; omega
       · rw [if_neg hlt] at ih; rw [if_neg (by omega)]; omega
theorem a5l (S:Nat → Nat) (i:Nat):∀ (ks:List Int) (V:List Nat),(V ++ ks.map Int.toNat).Nodup → (∀ k ∈ ks,0 ≤ k ∧ k < i) → a1J S (V ++ ks.map Int.toNat) i + szL (fun k => S k.toNat) ks = a1J S V i
 | [],V,_,_ => by simp [szL]
 | k :: ks,V,hn,hk => by
   have hk0:=hk k List.mem_cons_self
   have e:V ++ (k :: ks).map Int.toNat = (V ++ [k.toNat]) ++ ks.map Int.toNat:=by simp
   rw [e] at hn ⊢
   have ih:=a5l S i ks (V ++ [k.toNat]) hn (fun q hq => hk q (List.mem_cons_of_mem _ hq))
   have hkV:k.toNat ∉ V:=fun hm => (List.nodup_append.1 (List.nodup_append.1 hn).1).2.2 _ hm _ (by simp) rfl
   have:=b2E S V k.toNat hkV i
   rw [if_pos (by omega)] at this
   rw [szL]; omega
theorem b3Z (e:List Nd) (S:Nat → Nat) (hS:∀ i n,nth e i = some n → S i = 1 + szL (fun k => S k.toNat) (kids n)):∀ (suf pre:List Nd) (V V':List Nat),e = pre ++ suf → E7 e suf pre.length V = some V' → V'.Nodup →
  (∀ x ∈ V,x < pre.length) → a1J S V pre.length = pre.length → (∀ j,j < pre.length → S j ≤ j + 1) → ∀ j,j < e.length → S j ≤ j + 1
 | [],pre,V,V',h,hs,hn,hV,hU,hj,j,hjl => hj j (by rw [h] at hjl; simpa using hjl)
 | n :: suf,pre,V,V',h,hs,hn,hV,hU,hj,j,hjl => by
   rw [E7] at hs
   split at hs
   case isFalse => cases hs
   rename_i hc
   have hpl:(pre ++ [n]).length = pre.length + 1:=by simp
   have hi:nth e pre.length = some n:=by rw [h,nth_getElem?]; simp
   obtain ⟨W,rfl⟩:=a3d e suf _ _ _ hs
   have hn1:=(List.nodup_append.1 hn).1
   have hr:∀ k ∈ kids n,0 ≤ k ∧ k < pre.length:=fun k hk => by simpa using List.all_eq_true.1 hc.2.1 k hk
   have hV':∀ x ∈ V ++ (kids n).map Int.toNat,x < pre.length:=fun x hx => by
    rcases List.mem_append.1 hx with hx | hx
    · exact hV x hx
    · obtain ⟨k,hk,rfl⟩:=List.mem_map.1 hx
      have:=hr k hk; omega
   have hU':=a5l S pre.length (kids n) V hn1 hr
   have hSi:=hS _ _ hi
   have hSU:a1J S (V ++ (kids n).map Int.toNat) (pre.length + 1) = pre.length + 1:=by
    rw [a1J,if_neg (fun hm => by have:=hV' _ hm; omega)]; omega
   refine b3Z e S hS suf (pre ++ [n]) _ _ (by rw [h]; simp) (by rw [hpl]; exact hs) hn (fun x hx => by have:=hV' x hx; rw [hpl]; omega) (by rw [hpl]; exact hSU) (fun q hq => ?_) j hjl
   rw [hpl] at hq
   rcases Nat.lt_or_eq_of_le (Nat.le_of_lt_succ hq) with h1 | h1
   · exact hj q h1
   · subst h1
     rw [a1J,if_neg (fun hm => by have:=hV' _ hm; omega)] at hSU
     omega
theorem a6P (e:List Nd):∀ (suf pre:List Nd) (V V':List Nat),e = pre ++ suf → E7 e suf pre.length V = some V' → ∀ (i:Nat) (n:Nd),pre.length ≤ i → nth e i = some n → a0H n = true ∧ R4 e n (kids n) 0 = true ∧ ∀ k ∈ kids n,0 ≤ k ∧ k < i
 | [],pre,V,V',h,hs,i,n,hi,hn => by
   rw [nth_getElem?] at hn
   have:=(List.getElem?_eq_some_iff.1 hn).1
   rw [h] at this; simp at this; omega
 | m :: suf,pre,V,V',h,hs,i,n,hi,hn => by
   rw [E7] at hs
   split at hs
   case isFalse => cases hs
   rename_i hc
   have hpl:(pre ++ [m]).length = pre.length + 1:=by simp
   rcases Nat.lt_or_eq_of_le hi with h1 | h1
   · exact a6P e suf (pre ++ [m]) _ _ (by rw [h]; simp) (by rw [hpl]; exact hs) i n (by rw [hpl]; exact h1) hn
   · subst h1
     rw [h,nth_getElem?] at hn
     simp at hn
     subst hn
     exact ⟨hc.1,hc.2.2,fun k hk => by simpa using List.all_eq_true.1 hc.2.1 k hk⟩
structure MayP (e:List Nd):Prop where
 ne:e ≠ []
 len:e.length ≤ 5000
 last:a7a e (e.length - 1) ≠ 28
 deep:depth e ≤ 40
 node:∀ (i:Nat) (n:Nd),nth e i = some n → a0H n = true
 args:∀ (i:Nat) (n:Nd),nth e i = some n → R4 e n (kids n) 0 = true
 ahead:a7r e
 small:∀ i:Nat,i < e.length → sz e (i + 1) (i:Int) ≤ i + 1
theorem a8I {e:List Nd} (h:s8 e = true):MayP e:=by
 simp only [s8,and_eq_true,decide_eq_true_eq] at h
 obtain ⟨h1,h2,h3,h4⟩:=h
 split at h4
 · cases h4
 rename_i V hs
 simp only [and_eq_true,decide_eq_true_eq] at h4
 obtain ⟨k1,k2⟩:=(a2F e e 0 [] V (by simp)).1 hs
 have hA:=a6P e e [] [] V rfl k1
 have hah:a7r e:=fun i n hn => (hA i n (by simp) hn).2.2
 refine ⟨h1,h2,h3,h4.2,fun i n hn => (hA i n (by simp) hn).1,fun i n hn => (hA i n (by simp) hn).2.1,hah,?_⟩
 refine b3Z e (fun i => sz e (i + 1) (i:Int)) (fun i n hn => ?_) e [] [] V rfl k1 k2 (by simp) rfl (by simp)
 have hil:i < e.length:=by rw [nth_getElem?] at hn; exact (List.getElem?_eq_some_iff.1 hn).1
 have hg:e.getD i nd0 = n:=by have:=X9 hil; rw [hn] at this; exact (Option.some.inj this).symm
 show sz e (i + 1) (i:Int) = _
 rw [sz,Int.toNat_natCast,hg]
 congr 1
 refine a3g fun k hk => ?_
 have:=hah i n hn k hk
 obtain ⟨j,rfl⟩:∃ j:Nat,k = j:=⟨k.toNat,by omega⟩
 rw [Int.toNat_natCast]
 exact a7p hah i j (by omega) (by omega)
theorem a4G {g:Int → List Nd → List Nd} {s:Int → Nat}:∀ (ks:List Int) (o:List Nd) (q:List Int),(∀ k ∈ ks,∀ o,(g k o).length = o.length + s k) → (a1L g ks o q).1.length = o.length + szL s ks ∧ (a1L g ks o q).2.length = q.length + ks.length
 | [],o,q,_ => by simp [a1L,szL]
 | k :: r,o,q,h => by
   have ih:=a4G r (g k o) (q ++ [((g k o).length:Int) - 1]) (fun x hx => h x (List.mem_cons_of_mem _ hx))
   rw [a1L,ih.1,ih.2,h k List.mem_cons_self,szL]
   simp; omega
theorem a1k {e:List Nd}:∀ (f:Nat) (i:Int) (o:List Nd),(ord e f i o).length = o.length + sz e f i
 | 0,i,o => by simp [ord,sz]
 | f + 1,i,o => by
   rw [ord,sz,length_append,(a4G _ o [] fun k _ o => a1k f k o).1,List.length_singleton]; omega
theorem b3A {e:List Nd} (hM:MayP e):∀ (f i:Nat) (out:List Nd),i < f → i < e.length → out.length + sz e f i ≤ 274877906944 → c3i T.rf out e (i:Nat) = some (ord e f (i:Nat) out)
 | 0,i,out,h,_,_ => by omega
 | f + 1,i,out,h,hi,hb => d7o (by
   have hni:=X9 hi
   have hal:=hM.ahead i _ hni
   have hlen:=hM.len
   have hk3:=I4 (e.getD i nd0)
   have loop:∀ (suf:List Int) (q:List Int) (o:List Nd),(∀ k ∈ suf,0 ≤ k ∧ k < i) → q.length + suf.length ≤ 3 → o.length + szL (sz e f) suf ≤ 274877906944 →
     c3O T.rb o (q ++ suf) e (((q ++ suf).length:Nat):Int) (q.length:Nat) = some ((a1L (ord e f) suf o q).2,(a1L (ord e f) suf o q).1):=by
    intro suf
    induction suf with
    | nil =>
      intro q o _ _ _
      exact c9m (by simp only [b8R,j9,n8,List.append_nil,cond_false,a1L])
    | cons k suf ih =>
      intro q o hs hq hb
      have hk:=hs k List.mem_cons_self
      simp only [length_cons,szL] at hq hb
      obtain ⟨j,rfl⟩:∃ j:Nat,k = j:=⟨k.toNat,by omega⟩
      have hrec:=b3A hM f j o (by omega) (by omega) (by omega)
      have hl:=a1k (e:=e) f j o
      have ih:=ih (q ++ [((ord e f j o).length:Int) - 1]) (ord e f j o) (fun x hx => hs x (List.mem_cons_of_mem _ hx)) (by simp; omega) (by omega)
      have hll:(q ++ [((ord e f j o).length:Int) - 1] ++ suf).length = (q ++ (j:Int) :: suf).length:=by simp
      have hset:l9 (q ++ (j:Int) :: suf) ((q.length:Nat):Int).toNat (((ord e f j o).length:Int) - 1) = q ++ [((ord e f j o).length:Int) - 1] ++ suf:=by
       rw [E5,Int.toNat_natCast,List.set_append_right _ _ (Nat.le_refl _),Nat.sub_self,List.set_cons_zero]; simp
      have hbl:Nat.blt ((q.length:Nat):Int).toNat (q ++ (j:Int) :: suf).length = true:=a0v (by simp)
      refine c9m ?_
      simp only [b8R,g8,a5,a6,cond_true,bind_some,hrec,hbl,a3i (show (ord e f (j:Int) o).length < 4611686018427387904 by omega),hset,e9 q ((j:Nat):Int) (by omega)]
      rw [a1L,← hll]
      have e1:(q ++ [((j:Nat):Int)]).length = (q ++ [((ord e f j o).length:Int) - 1]).length:=by simp
      rw [e1]
      exact ih
   rw [sz,Int.toNat_natCast] at hb
   have hl:=loop (kids (e.getD i nd0)) [] out hal (by simpa using hk3) (by omega)
   simp only [List.nil_append,length_nil] at hl
   rw [show ((0:Nat):Int) = (0:Int) from rfl] at hl
   have hol:=(a4G (kids (e.getD i nd0)) out [] fun k _ o => a1k (e:=e) f k o).1
   simp only [c4P,B5,dt hi,cond_true,Int.toNat_natCast,hni,bind_some,a1e,hl,a5c]
   rw [j5 (by omega)]
   simp only [Bool.and_true,cond_true,ord,Int.toNat_natCast])
def a9B (e:List Nd) (i:Int):List Nd:=if 0 ≤ i ∧ i < e.length ∧ s8 e = true then ord e (i.toNat + 1) i [] else []
theorem b4w {e:List Nd} (h:e.length ≤ 1000000) (i:Int):b9T T.rf e i = some (a9B e i):=d7n (by
 simp only [c4O,a9B]
 by_cases h1:0 ≤ i
 case neg => rw [dt (show i < 0 by omega),cond_true,if_neg (by omega)]
 rw [df (show ¬ i < 0 by omega),cond_false]
 by_cases h2:i < e.length
 case neg => rw [dt (show i ≥ e.length by omega),cond_true,if_neg (by omega)]
 rw [df (show ¬ i ≥ e.length by omega),cond_false,a7z h,bind_some]
 cases hm:s8 e
 · rw [if_neg (by intro hh; cases hh.2.2)]; rfl
 · rw [if_pos ⟨h1,h2,rfl⟩]
   have hM:=a8I hm
   obtain ⟨j,rfl⟩:∃ j:Nat,i = j:=⟨i.toNat,by omega⟩
   have:=hM.small j (by omega)
   have hl:=hM.len
   rw [b3A hM (j + 1) j [] (by omega) (by omega) (by simp; omega),Int.toNat_natCast]; rfl)
theorem c2G {e:List Nd} (i:Int):(a9B e i).length ≤ 5001:=by
 unfold a9B
 split
 · rename_i h
   have hM:=a8I h.2.2
   obtain ⟨j,rfl⟩:∃ j:Nat,i = j:=⟨i.toNat,by omega⟩
   have:=hM.small j (by omega)
   have hl:=hM.len
   rw [a1k,Int.toNat_natCast]; simp; omega
 · simp
def c2M:List Nd → List (List UInt8) → List (List UInt8)
 | [],l => l
 | n :: r,l => if n.1 = 3 ∧ n.2.2.2.2.2 ∉ l then c2M r (l ++ [n.2.2.2.2.2]) else c2M r l
theorem c2w (l:List (List UInt8)) (x:List UInt8):j4 (CT.eqK .str) false (l.map fun s => (s,true)) x = decide (x ∈ l):=by
 have:assoc (CT.eqK .str) (l.map fun s => (s,true)) x = if x ∈ l then some true else none:=by
  induction l with
  | nil => rfl
  | cons y l ih =>
    simp only [List.map_cons,assoc,ih]
    by_cases e:x = y
    · subst e
      have:CT.eqK .str x x = true:=beq_self_eq_true x
      rw [this]; simp
    · have:CT.eqK .str x y = false:=beq_eq_false_iff_ne.2 e
      rw [this]; simp [e]
 unfold j4
 rw [this]
 by_cases h:x ∈ l <;> simp [h]
theorem b4b:∀ (l:List (List UInt8)) (x:List UInt8),x ∉ l → o4 (CT.eqK .str) (l.map fun s => (s,true)) x true = (l ++ [x]).map fun s => (s,true)
 | [],x,_ => rfl
 | y :: l,x,h => by
   simp only [List.mem_cons,not_or] at h
   have:CT.eqK .str x y = false:=beq_eq_false_iff_ne.2 h.1
   simp only [List.map_cons,o4,this,cond_false,b4b l x h.2,List.cons_append]
theorem b2b {α:Type} {l:List α} (h:l.length ≤ 1000000):IntKind.i64.wrap ((l.length:Int) - 1) = (l.length:Int) - 1:=wr (by omega)
def norm (e:List Nd):List Nd:=a9B e ((e.length:Int) - 1)
def vars (e:List Nd):List (List UInt8):=c2M (norm e) []
inductive Tr where
 | mk (b:Nd) (ks:List Tr)
mutual
def Tr.size:Tr → Nat
 | .mk b ks => B9 ks + 1
def B9:List Tr → Nat
 | [] => 0
 | t :: r => t.size + B9 r
end
def roots:List Tr → Nat → List Int
 | [],_ => []
 | t :: r,o => ((o + t.size - 1:Nat):Int) :: roots r (o + t.size)
mutual
def flat:Tr → Nat → List Nd
 | .mk b ks,o => s7 ks o ++ [aim b (roots ks o)]
def s7:List Tr → Nat → List Nd
 | [],_ => []
 | t :: r,o => flat t o ++ s7 r (o + t.size)
end
mutual
def dep:Tr → Int
 | .mk b ks => c3F ks 0 + 1
def c3F:List Tr → Int → Int
 | [],m => m
 | t :: r,m => c3F r (if dep t > m then dep t else m)
end
def Tr.op:Tr → Int
 | .mk b _ => b.1
def blank (n:Nd):Nd:=(n.1,-1,-1,-1,n.2.2.2.2)
mutual
def Emb (e:List Nd):Nat → Tr → Prop
 | i,.mk b ks => ∃ n,nth e i = some n ∧ b = blank n ∧ n = aim b (kids n) ∧ a0p e i (kids n) ks
def a0p (e:List Nd) (i:Nat):List Int → List Tr → Prop
 | [],[] => True
 | k :: r,t :: ts => 0 ≤ k ∧ k < i ∧ Emb e k.toNat t ∧ a0p e i r ts
 | _,_ => False
end
theorem Tr.size_pos:∀ t:Tr,0 < t.size
 | .mk b ks => by rw [Tr.size]; omega
theorem G8:∀ (ks:List Tr) (o:Nat),(roots ks o).length = ks.length
 | [],_ => rfl
 | t :: r,o => by simp [roots,G8 r]
mutual
theorem D1:∀ (t:Tr) (o:Nat),(flat t o).length = t.size
 | .mk b ks,o => by rw [flat,length_append,a0x ks o,Tr.size]; simp
theorem a0x:∀ (ks:List Tr) (o:Nat),(s7 ks o).length = B9 ks
 | [],o => rfl
 | t :: r,o => by rw [s7,length_append,D1 t o,a0x r _,B9]
end
theorem a7u {e:List Nd} {i:Nat}:∀ {l:List Int} {ts:List Tr},a0p e i l ts → l.length = ts.length
 | [],[],_ => rfl
 | k :: r,t :: ts,⟨_,_,_,h⟩ => by simp [a7u h]
 | [],_ :: _,h => by simp [a0p] at h
 | _ :: _,[],h => by simp [a0p] at h
theorem b5X (b:Nd):∀ (l m:List Int),l.length = m.length → aim (aim b l) m = aim b m
 | [],[],_ => rfl
 | [a],[x],_ => rfl
 | [a,b'],[x,y],_ => by
   by_cases h:b.1 = 28
   · simp [aim,h]
   · simp [aim,h]
 | a :: b' :: c :: r,x :: y :: z :: s,_ => rfl
 | [],_ :: _,h => by simp at h
 | [_],[],h => by simp at h
 | [_],_ :: _ :: _,h => by simp at h
 | [_,_],[],h => by simp at h
 | [_,_],[_],h => by simp at h
 | [_,_],_ :: _ :: _ :: _,h => by simp at h
 | _ :: _ :: _ :: _,[],h => by simp at h
 | _ :: _ :: _ :: _,[_],h => by simp at h
 | _ :: _ :: _ :: _,[_,_],h => by simp at h
theorem a5m (b:Nd) (l:List Int):(aim b l).1 = b.1:=by
 match l with
 | [] => rfl
 | [a] => rfl
 | [a,c] => by_cases h:b.1 = 28 <;> simp [aim,h]
 | _ :: _ :: _ :: _ => rfl
theorem a1T (b:Nd) (l:List Int):(aim b l).2.2.2.2 = b.2.2.2.2:=by
 match l with
 | [] => rfl
 | [a] => rfl
 | [a,c] => by_cases h:b.1 = 28 <;> simp [aim,h]
 | _ :: _ :: _ :: _ => rfl
theorem a2N (b:Nd) (l:List Int):blank (aim b l) = blank b:=by
 simp only [blank,a5m,a1T]
theorem b6r {e:List Nd} (hM:MayP e):∀ (m i:Nat),i < m → i < e.length → ∃ t,Emb e i t
 | 0,i,h,_ => by omega
 | m + 1,i,h,hi => by
   have hni:=X9 hi
   have hal:=hM.ahead i _ hni
   have hno:=hM.node i _ hni
   have each:∀ l:List Int,(∀ k ∈ l,0 ≤ k ∧ k < i) → ∃ ts,a0p e i l ts:=by
    intro l
    induction l with
    | nil => exact fun _ => ⟨[],trivial⟩
    | cons k l ih =>
      intro hl
      obtain ⟨ts,hts⟩:=ih fun q hq => hl q (List.mem_cons_of_mem _ hq)
      have hk:=hl k List.mem_cons_self
      obtain ⟨t,ht⟩:=b6r hM m k.toNat (by omega) (by omega)
      exact ⟨t :: ts,hk.1,hk.2,ht,hts⟩
   obtain ⟨ts,hts⟩:=each _ hal
   have:=(of_decide_eq_true hno).2.2.1
   exact ⟨.mk (blank (e.getD i nd0)) ts,_,hni,rfl,this,hts⟩
mutual
theorem b1Q (e:List Nd):∀ (t:Tr) (f i:Nat) (o:List Nd),Emb e i t → i < f → ord e f (i:Nat) o = o ++ flat t o.length
 | .mk b ks,0,i,o,_,h => by omega
 | .mk b ks,f + 1,i,o,⟨n,hn,hb,hna,hks⟩,h => by
   have hil:i < e.length:=by rw [nth_getElem?] at hn; exact (List.getElem?_eq_some_iff.1 hn).1
   have hg:e.getD i nd0 = n:=by have:=X9 hil; rw [hn] at this; exact (Option.some.inj this).symm
   rw [ord,Int.toNat_natCast,hg,flat]
   have:=b3y e ks f i (kids n) o [] hks (by omega)
   rw [this]
   simp only [List.nil_append,List.append_assoc]
   congr 2
   have hl:=a7u hks
   have e1:aim n (roots ks o.length) = aim b (roots ks o.length):=by
    conv => lhs; rw [hna]
    exact b5X b _ _ (by rw [G8,hl])
   rw [e1]
theorem b3y (e:List Nd):∀ (ts:List Tr) (f i:Nat) (l:List Int) (o:List Nd) (q:List Int),a0p e i l ts → i ≤ f → a1L (ord e f) l o q = (o ++ s7 ts o.length,q ++ roots ts o.length)
 | [],f,i,l,o,q,h,hf => by
   cases l with
   | nil => simp [a1L,s7,roots]
   | cons k l => simp [a0p] at h
 | t :: ts,f,i,l,o,q,h,hf => by
   cases l with
   | nil => simp [a0p] at h
   | cons k l =>
     obtain ⟨h1,h2,h3,h4⟩:=h
     have hk:((k.toNat:Nat):Int) = k:=by omega
     have ho:=b1Q e t f k.toNat o h3 (by omega)
     rw [hk] at ho
     rw [a1L,ho,b3y e ts f i l _ _ h4 hf]
     have hsz:=t.size_pos
     have hl:(o ++ flat t o.length).length = o.length + t.size:=by rw [length_append,D1]
     rw [hl,s7,roots]
     simp only [List.append_assoc,List.singleton_append]
     congr 3
     omega
end
theorem b8C {e:List Nd} {i:Nat} {t:Tr} (hM:s8 e = true) (hi:i < e.length) (h:Emb e i t):a9B e (i:Nat) = flat t 0:=by
 unfold a9B
 rw [if_pos ⟨by omega,by omega,hM⟩,Int.toNat_natCast,b1Q e t (i + 1) i [] h (by omega)]
 simp
def c5S (b:Nd) (m:Nat):Prop:=∀ l:List Int,l.length = m → (∀ x ∈ l,x ≠ -1) → kids (aim b l) = l
def c2Y (b:Nd) (m a:Nat) (op:Int):Bool:=decide (op = 28) == (decide (b.1 = 27) || (decide (b.1 = 28) && (decide (m = 2) && decide (a = 0))))
def a6c (b:Nd) (m:Nat):List Tr → Nat → Bool
 | [],_ => true
 | t :: r,a => c2Y b m a t.op && a6c b m r (a + 1)
mutual
def Valid:Tr → Prop
 | .mk b ks => b = blank b ∧ c5S b ks.length ∧ ks.length ≤ 3 ∧ (1 ≤ b.1 ∧ b.1 ≤ 28 ∧ 0 ≤ b.2.2.2.2.1 ∧ b.2.2.2.2.1 ≤ a2h b.1 ∧ (b.2.2.2.2.2 ≠ [] ↔ (b.1 = 3 ∨ b.1 = 27))) ∧ a6c b ks.length ks 0 = true ∧ P1 ks
def P1:List Tr → Prop
 | [] => True
 | t :: r => Valid t ∧ P1 r
end
theorem c0P (n:Nd) (h:n = aim (blank n) (kids n)) (hneg:∀ x ∈ kids n,x ≠ -1):c5S (blank n) (kids n).length:=by
 intro l hl hx
 obtain ⟨op,a,b,c,k,nm⟩:=n
 by_cases h26:op = 26
 · subst h26
   have hk:kids (26,a,b,c,k,nm) = [a,b,c]:=by simp [kids]
   rw [hk] at hl
   match l,hl with
   | [x,y,z],_ => simp [blank,aim,kids]
 by_cases h28:op = 28
 · subst h28
   by_cases hb:b = -1
   · have hk:kids (28,a,b,c,k,nm) = [a]:=by subst hb; simp [kids]
     rw [hk] at hl
     match l,hl with
     | [x],_ => simp [blank,aim,kids]
   · have hk:kids (28,a,b,c,k,nm) = [b,a]:=by simp [kids,hb]
     rw [hk] at hl
     match l,hl with
     | [x,y],_ =>
       have:x ≠ -1:=hx x (by simp)
       simp [blank,aim,kids,this]
 by_cases h27:op = 27
 · subst h27
   by_cases ha:a = -1
   · have hk:kids (27,a,b,c,k,nm) = []:=by subst ha; simp [kids]
     rw [hk] at hl
     match l,hl with
     | [],_ => simp [blank,aim,kids]
   · have hk:kids (27,a,b,c,k,nm) = [a]:=by simp [kids,ha]
     rw [hk] at hl
     match l,hl with
     | [x],_ =>
       have:x ≠ -1:=hx x (by simp)
       simp [blank,aim,kids,this]
 by_cases h6:6 ≤ op ∧ op ≤ 20
 · have hk:kids (op,a,b,c,k,nm) = [a,b]:=by
    simp only [kids]; rw [if_neg h26,if_neg (fun h => h28 h.1),if_neg (fun h => h27 h.1),if_pos h6]
   rw [hk] at hl
   match l,hl with
   | [x,y],_ =>
     have ha:aim (blank (op,a,b,c,k,nm)) [x,y] = (op,x,y,-1,k,nm):=by
      show (if op = 28 then ((op,y,x,-1,k,nm):Nd) else (op,x,y,-1,k,nm)) = _
      rw [if_neg h28]
     rw [ha]
     simp only [kids]
     rw [if_neg h26,if_neg (fun h => h28 h.1),if_neg (fun h => h27 h.1),if_pos h6]
 by_cases h4:op = 4 ∨ op = 5 ∨ (21 ≤ op ∧ op ≤ 28)
 · have hk:kids (op,a,b,c,k,nm) = [a]:=by
    simp only [kids]; rw [if_neg h26,if_neg (fun h => h28 h.1),if_neg (fun h => h27 h.1),if_neg h6,if_pos h4]
   rw [hk] at hl
   match l,hl with
   | [x],_ =>
     show kids (op,x,-1,-1,k,nm) = [x]
     simp only [kids]
     rw [if_neg h26,if_neg (fun h => h28 h.1),if_neg (fun h => h27 h.1),if_neg h6,if_pos h4]
 · have hk:kids (op,a,b,c,k,nm) = []:=by
    simp only [kids]; rw [if_neg h26,if_neg (fun h => h28 h.1),if_neg (fun h => h27 h.1),if_neg h6,if_neg h4]
   rw [hk] at hl
   match l,hl with
   | [],_ =>
     show kids (op,-1,-1,-1,k,nm) = []
     simp only [kids]
     rw [if_neg h26,if_neg (fun h => h28 h.1),if_neg (fun h => h27 h.1),if_neg h6,if_neg h4]
theorem d1S {e:List Nd} {i:Nat}:∀ {t:Tr},Emb e i t → i < e.length
 | .mk b ks,⟨n,hn,_⟩ => by rw [nth_getElem?] at hn; exact (List.getElem?_eq_some_iff.1 hn).1
theorem c4D {e:List Nd} {i:Nat} {n:Nd} (h:nth e i = some n):a7a e i = n.1:=by
 rw [nth_getElem?] at h
 rw [a7a,List.getD_eq_getElem?_getD,h]; rfl
theorem b4H {e:List Nd} {i:Nat}:∀ {t:Tr},Emb e i t → a7a e i = t.op
 | .mk b ks,⟨n,hn,hb,_⟩ => by rw [c4D hn,Tr.op,hb]; rfl
theorem d1g {e:List Nd} {n b:Nd} {a:Nat} {k:Int} {t:Tr} (hb:b = blank n) (ht:Emb e k.toNat t):a9N e n a k = c2Y b (kids n).length a t.op:=by
 unfold a9N c2Y
 rw [b4H ht,show b.1 = n.1 by rw [hb]; rfl]
 by_cases h28:n.1 = 28
 · have:=c0O n h28
   by_cases hb':n.2.2.1 = -1
   · rw [df (show ¬ n.2.2.1 ≠ -1 from fun h => h hb'),df (show ¬ (kids n).length = 2 from fun h => this.1 h hb')]
   · rw [dt (show n.2.2.1 ≠ -1 from hb'),dt (this.2 hb')]
 · rw [df h28]; simp
theorem b1u {e:List Nd} {n b:Nd} {i:Nat} (hb:b = blank n):∀ (l:List Int) (ts:List Tr) (a:Nat),a0p e i l ts → R4 e n l a = a6c b (kids n).length ts a
 | [],[],a,_ => rfl
 | k :: l,t :: ts,a,⟨_,_,h3,h4⟩ => by rw [R4,a6c,d1g hb h3,b1u hb l ts (a + 1) h4]
 | [],_ :: _,a,h => by simp [a0p] at h
 | _ :: _,[],a,h => by simp [a0p] at h
mutual
theorem b1n {e:List Nd} (hM:MayP e):∀ (t:Tr) (i:Nat),Emb e i t → Valid t
 | .mk b ks,i,⟨n,hn,hb,hna,hks⟩ => by
   have hno:=of_decide_eq_true (hM.node i n hn)
   have hal:=hM.ahead i n hn
   have hl:=a7u hks
   have hk3:=I4 n
   have hA:=c0P n (by rw [← hb]; exact hna) (fun x hx => by have:=hal x hx; omega)
   rw [Valid,← hl]
   refine ⟨?_,by rw [hb]; exact hA,hk3,?_,?_,a9J hM ks i (kids n) hks⟩
   · rw [hb]; rfl
   · rw [hb]; exact ⟨hno.1,hno.2.1,hno.2.2.2.1,hno.2.2.2.2.1,hno.2.2.2.2.2⟩
   · rw [← b1u (e:=e) (i:=i) hb (kids n) ks 0 hks]; exact hM.args i n hn
theorem a9J {e:List Nd} (hM:MayP e):∀ (ts:List Tr) (i:Nat) (l:List Int),a0p e i l ts → P1 ts
 | [],i,l,_ => trivial
 | t :: ts,i,l,h => by
   cases l with
   | nil => simp [a0p] at h
   | cons k l => obtain ⟨_,_,h3,h4⟩:=h; exact ⟨b1n hM t _ h3,a9J hM ts i l h4⟩
end
theorem Z0:∀ (ks:List Tr) (o:Nat) (x:Int),x ∈ roots ks o → (o:Int) ≤ x ∧ x < o + B9 ks
 | [],o,x,h => by simp [roots] at h
 | t :: r,o,x,h => by
   have hs:=t.size_pos
   rw [roots] at h
   rw [B9]
   rcases List.mem_cons.1 h with h | h
   · subst h; omega
   · have:=Z0 r (o + t.size) x h; omega
mutual
theorem a4l:∀ (t:Tr) (pre suf:List Nd),Valid t → Emb (pre ++ (flat t pre.length ++ suf)) (pre.length + t.size - 1) t
 | .mk b ks,pre,suf,⟨h1,h2,h3,h4,h5,h6⟩ => by
   have hr:=G8 ks pre.length
   have hk:kids (aim b (roots ks pre.length)) = roots ks pre.length:=h2 _ hr fun x hx => by have:=Z0 ks _ x hx; omega
   have hE:=a5w ks pre ([aim b (roots ks pre.length)] ++ suf) (pre.length + B9 ks) h6 (Nat.le_refl _)
   refine ⟨aim b (roots ks pre.length),?_,?_,by rw [hk],?_⟩
   · rw [flat,Tr.size,nth_getElem?,List.getElem?_append_right (by omega),List.append_assoc,List.getElem?_append_right (by rw [a0x]; omega),a0x]
     rw [show pre.length + (B9 ks + 1) - 1 - pre.length - B9 ks = 0 by omega]; rfl
   · rw [a2N]; exact h1
   · rw [hk,flat,Tr.size,List.append_assoc,show pre.length + (B9 ks + 1) - 1 = pre.length + B9 ks by omega]
     exact hE
theorem a5w:∀ (ks:List Tr) (pre suf:List Nd) (i:Nat),P1 ks → pre.length + B9 ks ≤ i → a0p (pre ++ (s7 ks pre.length ++ suf)) i (roots ks pre.length) ks
 | [],pre,suf,i,_,_ => trivial
 | t :: r,pre,suf,i,⟨h1,h2⟩,hi => by
   have hs:=t.size_pos
   rw [B9] at hi
   have h3:=a4l t pre (s7 r (pre.length + t.size) ++ suf) h1
   have h4:=a5w r (pre ++ flat t pre.length) suf i h2 (by rw [length_append,D1]; omega)
   rw [length_append,D1] at h4
   have e1:(pre ++ flat t pre.length) ++ (s7 r (pre.length + t.size) ++ suf) = pre ++ (s7 (t :: r) pre.length ++ suf):=by rw [s7]; simp
   have e2:pre ++ (flat t pre.length ++ (s7 r (pre.length + t.size) ++ suf)) = pre ++ (s7 (t :: r) pre.length ++ suf):=by rw [s7]; simp
   rw [e1] at h4
   rw [e2] at h3
   refine ⟨by omega,by omega,?_,h4⟩
   rw [Int.toNat_natCast]
   exact h3
end
theorem b0v:∀ (suf:List Nd) (acc:List Int),(O3 suf acc).take acc.length = acc
 | [],acc => by simp [O3]
 | n :: r,acc => by
   have:=b0v r (acc ++ [o8 acc (kids n) 0 + 1])
   rw [O3]
   have h2:=congrArg (List.take acc.length) this
   rw [List.take_take] at h2
   rw [show min acc.length (acc ++ [o8 acc (kids n) 0 + 1]).length = acc.length by simp] at h2
   rw [h2]; simp
theorem b2R:∀ (suf:List Nd) (acc:List Int) (j:Nat) (n:Nd),nth suf j = some n → (O3 suf acc).getD (acc.length + j) 0 = o8 ((O3 suf acc).take (acc.length + j)) (kids n) 0 + 1
 | [],acc,j,n,h => by simp [nth] at h
 | m :: r,acc,0,n,h => by
   simp only [nth,Option.some.injEq] at h
   subst h
   rw [O3]
   have ht:=b0v r (acc ++ [o8 acc (kids m) 0 + 1])
   have hl:(acc ++ [o8 acc (kids m) 0 + 1]).length = acc.length + 1:=by simp
   rw [hl] at ht
   have h1:(O3 r (acc ++ [o8 acc (kids m) 0 + 1])).take acc.length = acc:=by
    have h2:=congrArg (List.take acc.length) ht
    rw [List.take_take] at h2
    rw [show min acc.length (acc.length + 1) = acc.length by omega] at h2
    rw [h2]; simp
   have h3:(O3 r (acc ++ [o8 acc (kids m) 0 + 1]))[acc.length]? = some (o8 acc (kids m) 0 + 1):=by
    have h4:=congrArg (fun l => l[acc.length]?) ht
    simp only [List.getElem?_take] at h4
    rw [if_pos (by omega)] at h4
    rw [h4]; simp
   rw [Nat.add_zero,h1,List.getD_eq_getElem?_getD,h3]; rfl
 | m :: r,acc,j + 1,n,h => by
   have ih:=b2R r (acc ++ [o8 acc (kids m) 0 + 1]) j n (by simpa [nth] using h)
   have hl:(acc ++ [o8 acc (kids m) 0 + 1]).length + j = acc.length + (j + 1):=by simp; omega
   rw [hl] at ih
   rw [O3]; exact ih
mutual
theorem b6a {e:List Nd}:∀ (t:Tr) (i:Nat),Emb e i t → (O3 e []).getD i 0 = dep t
 | .mk b ks,i,⟨n,hn,hb,hna,hks⟩ => by
   have:=b2R e [] i n hn
   rw [length_nil,Nat.zero_add] at this
   have hil:i < e.length:=by rw [nth_getElem?] at hn; exact (List.getElem?_eq_some_iff.1 hn).1
   rw [this,dep,b2S ks i (kids n) 0 hks hil]
theorem b2S {e:List Nd}:∀ (ts:List Tr) (i:Nat) (l:List Int) (m:Int),a0p e i l ts → i < e.length → o8 ((O3 e []).take i) l m = c3F ts m
 | [],i,l,m,h,hi => by
   cases l with
   | nil => rfl
   | cons k l => simp [a0p] at h
 | t :: ts,i,l,m,h,hi => by
   cases l with
   | nil => simp [a0p] at h
   | cons k l =>
     obtain ⟨h1,h2,h3,h4⟩:=h
     have hlen:(O3 e []).length = e.length:=by rw [a1X]; simp
     have hk:k < ((O3 e []).take i).length:=by rw [List.length_take,hlen]; omega
     have hg:((O3 e []).take i).getD k.toNat 0 = dep t:=by
      rw [← b6a t k.toNat h3,List.getD_eq_getElem?_getD,List.getD_eq_getElem?_getD,List.getElem?_take,if_pos (by omega)]
     rw [o8,if_pos ⟨h1,hk⟩,hg,c3F,b2S ts i l _ h4 hi]
end
theorem a5v {e:List Nd} {t:Tr} (h:Emb e (e.length - 1) t):depth e = dep t:=by
 have hl:=d1S h
 have hlen:(O3 e []).length = e.length:=by rw [a1X]; simp
 rw [← b6a t _ h,depth,List.getLastD_eq_getLast?,List.getLast?_eq_getElem?,List.getD_eq_getElem?_getD,hlen]
mutual
def wT:Tr → Nat → List Nat
 | .mk b ks,o => wTs ks o ++ (roots ks o).map Int.toNat
def wTs:List Tr → Nat → List Nat
 | [],_ => []
 | t :: r,o => wT t o ++ wTs r (o + t.size)
end
theorem a5S (e:List Nd):∀ (a b:List Nd) (i:Nat) (V:List Nat),E7 e (a ++ b) i V = (E7 e a i V).bind fun V' => E7 e b (i + a.length) V'
 | [],b,i,V => rfl
 | n :: a,b,i,V => by
   rw [List.cons_append,E7,E7]
   split
   · rw [a5S e a b]
     have:i + 1 + a.length = i + (n :: a).length:=by simp; omega
     rw [this]
   · rfl
theorem c1d {b:Nd} {l:List Int} (h1:b = blank b) (hA:kids (aim b l) = l) (h4:1 ≤ b.1 ∧ b.1 ≤ 28 ∧ 0 ≤ b.2.2.2.2.1 ∧ b.2.2.2.2.1 ≤ a2h b.1 ∧ (b.2.2.2.2.2 ≠ [] ↔ (b.1 = 3 ∨ b.1 = 27))):a0H (aim b l) = true:=by
 unfold a0H
 have hb:((aim b l).1,(-1:Int),(-1:Int),(-1:Int),(aim b l).2.2.2.2) = b:=by
  have:=a2N b l
  rw [← h1] at this
  exact this
 rw [hb,hA,a5m,a1T]
 exact dt ⟨h4.1,h4.2.1,rfl,h4.2.2.1,h4.2.2.2.1,h4.2.2.2.2⟩
mutual
theorem a9l:∀ (t:Tr) (pre suf:List Nd) (V:List Nat),Valid t → E7 (pre ++ (flat t pre.length ++ suf)) (flat t pre.length) pre.length V = some (V ++ wT t pre.length)
 | .mk b ks,pre,suf,V,⟨h1,h2,h3,h4,h5,h6⟩ => by
   have hr:=G8 ks pre.length
   have hk:kids (aim b (roots ks pre.length)) = roots ks pre.length:=h2 _ hr fun x hx => by have:=Z0 ks _ x hx; omega
   have hE:=a5w ks pre ([aim b (roots ks pre.length)] ++ suf) (pre.length + B9 ks) h6 (Nat.le_refl _)
   have hS:=a6Q ks pre ([aim b (roots ks pre.length)] ++ suf) V h6
   have hbl:b = blank (aim b (roots ks pre.length)):=by rw [a2N]; exact h1
   rw [flat,List.append_assoc,a5S,hS,bind_some,a0x,E7]
   have hargs:=b1u (e:=pre ++ (s7 ks pre.length ++ ([aim b (roots ks pre.length)] ++ suf))) hbl (roots ks pre.length) ks 0 hE
   rw [hk,hr] at hargs
   have hr2:Q6 (pre.length + B9 ks) (kids (aim b (roots ks pre.length))) = true:=by
    rw [hk]
    refine List.all_eq_true.2 fun x hx => dt ?_
    have:=Z0 ks _ x hx
    omega
   rw [if_pos ⟨c1d h1 hk h4,hr2,by rw [hk,hargs,h5]⟩]
   rw [hk,E7,wT,List.append_assoc]
theorem a6Q:∀ (ks:List Tr) (pre suf:List Nd) (V:List Nat),P1 ks → E7 (pre ++ (s7 ks pre.length ++ suf)) (s7 ks pre.length) pre.length V = some (V ++ wTs ks pre.length)
 | [],pre,suf,V,_ => by simp [s7,E7,wTs]
 | t :: r,pre,suf,V,⟨h1,h2⟩ => by
   have h3:=a9l t pre (s7 r (pre.length + t.size) ++ suf) V h1
   have h4:=a6Q r (pre ++ flat t pre.length) suf (V ++ wT t pre.length) h2
   rw [length_append,D1] at h4
   have e1:(pre ++ flat t pre.length) ++ (s7 r (pre.length + t.size) ++ suf) = pre ++ (s7 (t :: r) pre.length ++ suf):=by rw [s7]; simp
   have e2:pre ++ (flat t pre.length ++ (s7 r (pre.length + t.size) ++ suf)) = pre ++ (s7 (t :: r) pre.length ++ suf):=by rw [s7]; simp
   rw [e1] at h4
   rw [e2] at h3
   conv => lhs; arg 2; rw [s7]
   rw [a5S,h3,bind_some,D1,h4,wTs,List.append_assoc]
end
mutual
theorem b2O (x:Nat):∀ (t:Tr) (o:Nat),(wT t o).count x = if o ≤ x ∧ x + 1 < o + t.size then 1 else 0
 | .mk b ks,o => by
   have:=b0t x ks o
   rw [wT,List.count_append,this,Tr.size]
   by_cases h:o ≤ x ∧ x < o + B9 ks
   · rw [if_pos h,if_pos (by omega)]
   · rw [if_neg h,if_neg (by omega)]
theorem b0t (x:Nat):∀ (ks:List Tr) (o:Nat),(wTs ks o).count x + ((roots ks o).map Int.toNat).count x = if o ≤ x ∧ x < o + B9 ks then 1 else 0
 | [],o => by rw [if_neg (by rw [B9]; omega)]; rfl
 | t :: r,o => by
   have h1:=b2O x t o
   have h2:=b0t x r (o + t.size)
   have hs:=t.size_pos
   rw [wTs,roots,B9,List.count_append,List.map_cons,List.count_cons,Int.toNat_natCast,h1]
   by_cases hx:o + t.size - 1 = x
   · have e:((o + t.size - 1 == x) = true):=beq_iff_eq.2 hx
     rw [if_pos e,if_neg (by omega),if_pos (by omega)]
     rw [if_neg (by omega)] at h2
     omega
   · have e:¬ ((o + t.size - 1 == x) = true):=fun h => hx (beq_iff_eq.1 h)
     rw [if_neg e]
     by_cases h3:o ≤ x ∧ x + 1 < o + t.size
     · rw [if_neg (by omega)] at h2
       rw [if_pos h3,if_pos (by omega)]; omega
     · rw [if_neg h3]
       by_cases h4:o + t.size ≤ x ∧ x < o + t.size + B9 r
       · rw [if_pos h4] at h2
         rw [if_pos (by omega)]; omega
       · rw [if_neg h4] at h2
         rw [if_neg (by omega)]; omega
end
theorem b3q {t:Tr} (hv:Valid t):s8 (flat t 0) = (decide (t.size ≤ 5000) && (decide (t.op ≠ 28) && decide (dep t ≤ 40))):=by
 have hs:=t.size_pos
 have hlen:=D1 t 0
 have hne:flat t 0 ≠ []:=fun h => by rw [h] at hlen; simp at hlen; omega
 have hE:=a4l t [] [] hv
 simp only [List.nil_append,List.append_nil,length_nil,Nat.zero_add] at hE
 have hS:=a9l t [] [] [] hv
 simp only [List.nil_append,List.append_nil,length_nil] at hS
 have hc:=fun x => b2O x t 0
 have hnd:(wT t 0).Nodup:=(a2Y _).2 fun j => by rw [hc j]; split <;> omega
 have hsc:=(a2F (flat t 0) (flat t 0) 0 [] (wT t 0) (by simp)).2 ⟨hS,hnd⟩
 have hall:((List.range (t.size - 1)).all fun j => decide (j ∈ wT t 0)) = true:=List.all_eq_true.2 fun j hj => by
  have h1:=List.mem_range.1 hj
  have:=hc j
  rw [if_pos (by omega)] at this
  exact dt (List.count_pos_iff.1 (by omega))
 have hE':Emb (flat t 0) ((flat t 0).length - 1) t:=by rw [hlen]; exact hE
 unfold s8
 rw [hsc,hlen,dt hne,Bool.true_and,b4H hE,a5v hE']
 simp only [hall,Bool.true_and]
theorem b6G (e:List Nd) (S:Nat → Nat) (hS:∀ i n,nth e i = some n → S i = 1 + szL (fun k => S k.toNat) (kids n)):∀ (suf pre:List Nd) (V V':List Nat),e = pre ++ suf → E7 e suf pre.length V = some V' → V'.Nodup →
  (∀ x ∈ V,x < pre.length) → a1J S V pre.length = pre.length → a1J S V' e.length = e.length
 | [],pre,V,V',h,hs,hn,hV,hU => by
   cases hs
   rw [h]; simpa using hU
 | n :: suf,pre,V,V',h,hs,hn,hV,hU => by
   rw [E7] at hs
   split at hs
   case isFalse => cases hs
   rename_i hc
   have hpl:(pre ++ [n]).length = pre.length + 1:=by simp
   have hi:nth e pre.length = some n:=by rw [h,nth_getElem?]; simp
   obtain ⟨W,rfl⟩:=a3d e suf _ _ _ hs
   have hn1:=(List.nodup_append.1 hn).1
   have hr:∀ k ∈ kids n,0 ≤ k ∧ k < pre.length:=fun k hk => by simpa using List.all_eq_true.1 hc.2.1 k hk
   have hV':∀ x ∈ V ++ (kids n).map Int.toNat,x < pre.length:=fun x hx => by
    rcases List.mem_append.1 hx with hx | hx
    · exact hV x hx
    · obtain ⟨k,hk,rfl⟩:=List.mem_map.1 hx
      have:=hr k hk; omega
   have hU':=a5l S pre.length (kids n) V hn1 hr
   have hSi:=hS _ _ hi
   have hSU:a1J S (V ++ (kids n).map Int.toNat) (pre.length + 1) = pre.length + 1:=by
    rw [a1J,if_neg (fun hm => by have:=hV' _ hm; omega)]; omega
   exact b6G e S hS suf (pre ++ [n]) _ _ (by rw [h]; simp) (by rw [hpl]; exact hs) hn (fun x hx => by have:=hV' x hx; rw [hpl]; omega) (by rw [hpl]; exact hSU)
theorem b0m (S:Nat → Nat) (V:List Nat):∀ i,(∀ j,j < i → j ∈ V) → a1J S V i = 0
 | 0,_ => rfl
 | i + 1,h => by rw [a1J,b0m S V i (fun j hj => h j (by omega)),if_pos (h i (by omega))]
theorem d2T {e:List Nd} {i:Nat} {t:Tr} (h:Emb e i t) (f:Nat) (hf:i < f):sz e f (i:Int) = t.size:=by
 have h1:=a1k (e:=e) f (i:Int) []
 rw [b1Q e t f i [] h hf] at h1
 simp only [List.nil_append,length_nil,D1,Nat.zero_add] at h1
 exact h1.symm
theorem a4D {e:List Nd} (h:s8 e = true):∃ t,Emb e (e.length - 1) t ∧ Valid t ∧ t.size = e.length ∧ t.op ≠ 28 ∧ dep t = depth e ∧ dep t ≤ 40 ∧ t.size ≤ 5000:=by
 have hM:=a8I h
 have hpos:=List.length_pos_iff.2 hM.ne
 obtain ⟨t,ht⟩:=b6r hM e.length (e.length - 1) (by omega) (by omega)
 have hd:=a5v ht
 have hop:=b4H ht
 have hsize:t.size = e.length:=by
  have h':=h
  simp only [s8,and_eq_true,decide_eq_true_eq] at h'
  obtain ⟨h1,h2,h3,h4⟩:=h'
  split at h4
  · cases h4
  rename_i V hs
  simp only [and_eq_true,decide_eq_true_eq] at h4
  obtain ⟨k1,k2⟩:=(a2F e e 0 [] V (by simp)).1 hs
  have hlt:=a9m e (e.length - 1) e 0 [] V k1 (by simp) (by omega)
  have hU:=b6G e (fun i => sz e (i + 1) (i:Int)) (fun i n hn => ?_) e [] [] V rfl k1 k2 (by simp) rfl
  · obtain ⟨m,hm⟩:∃ m,e.length = m + 1:=⟨e.length - 1,by omega⟩
    rw [hm,a1J,b0m _ V m (fun j hj => ?_),if_neg (fun hh => by have:=hlt m hh; omega)] at hU
    · have hm1:e.length - 1 = m:=by omega
      rw [hm1] at ht
      have:=d2T ht (m + 1) (by omega)
      have hU2:0 + sz e (m + 1) (m:Int) = m + 1:=hU
      omega
    · have:=List.all_eq_true.1 h4.1 j (List.mem_range.2 (by omega))
      exact of_decide_eq_true this
  · have hil:i < e.length:=by rw [nth_getElem?] at hn; exact (List.getElem?_eq_some_iff.1 hn).1
    have hg:e.getD i nd0 = n:=by have:=X9 hil; rw [hn] at this; exact (Option.some.inj this).symm
    show sz e (i + 1) (i:Int) = _
    rw [sz,Int.toNat_natCast,hg]
    congr 1
    refine a3g fun k hk => ?_
    have:=hM.ahead i n hn k hk
    obtain ⟨j,rfl⟩:∃ j:Nat,k = j:=⟨k.toNat,by omega⟩
    rw [Int.toNat_natCast]
    exact a7p hM.ahead i j (by omega) (by omega)
 exact ⟨t,ht,b1n hM t _ ht,hsize,by rw [← hop]; exact hM.last,hd.symm,by rw [← hd]; exact hM.deep,by rw [hsize]; exact hM.len⟩
theorem a0I {e:List Nd} {t:Tr} (h:s8 e = true) (ht:Emb e (e.length - 1) t):norm e = flat t 0:=by
 have hpos:=List.length_pos_iff.2 (a8I h).ne
 rw [norm,show ((e.length:Int) - 1) = ((e.length - 1:Nat):Int) by omega]
 exact b8C h (by omega) ht
theorem a1j {t:Tr} (hv:Valid t) (hm:s8 (flat t 0) = true):norm (flat t 0) = flat t 0:=by
 have hE:=a4l t [] [] hv
 simp only [List.nil_append,List.append_nil,length_nil,Nat.zero_add] at hE
 exact a0I hm (by rw [D1]; exact hE)
theorem K2 {e:List Nd} (h:s8 e = true):s8 (norm e) = true ∧ (norm e).length = e.length ∧ depth (norm e) = depth e ∧ norm (norm e) = norm e:=by
 obtain ⟨t,h1,h2,h3,h4,h5,h6,h7⟩:=a4D h
 have hn:=a0I h h1
 have hm:s8 (flat t 0) = true:=by rw [b3q h2,dt h7,dt h4,dt h6]; rfl
 have hE:=a4l t [] [] h2
 simp only [List.nil_append,List.append_nil,length_nil,Nat.zero_add] at hE
 refine ⟨by rw [hn]; exact hm,by rw [hn,D1,h3],?_,by rw [hn]; exact a1j h2 hm⟩
 rw [hn,a5v (t:=t) (by rw [D1]; exact hE),h5]
theorem Y6 {e:List Nd}:(norm e).length ≤ 5001:=c2G _
theorem a3e (p:Int):shift p (-1) = -1:=by unfold shift; rw [if_neg (by decide)]
theorem L9 {p x:Int} (h:0 ≤ x) (h2:x + p ≤ 1000000000) (hp:0 ≤ p):shift p x = x + p:=by
 unfold shift; rw [if_pos h,wr (by omega)]
theorem d2d {b:Nd} (hb:b = blank b) (p:Int) (hp:0 ≤ p):∀ l:List Int,l.length ≤ 3 → (∀ x ∈ l,0 ≤ x ∧ x + p ≤ 1000000000) → mv p (aim b l) = aim b (l.map fun x => x + p)
 | [],_,_ => by
   rw [hb]; simp [aim,mv,blank,a3e]
 | [x],_,h => by
   have hx:=h x (by simp)
   rw [hb]; simp [aim,mv,blank,a3e,L9 hx.1 hx.2 hp]
 | [x,y],_,h => by
   have hx:=h x (by simp)
   have hy:=h y (by simp)
   rw [hb]
   by_cases h28:b.1 = 28
   · simp [aim,mv,blank,a3e,L9 hx.1 hx.2 hp,L9 hy.1 hy.2 hp,h28]
   · simp [aim,mv,blank,a3e,L9 hx.1 hx.2 hp,L9 hy.1 hy.2 hp,h28]
 | [x,y,z],_,h => by
   have hx:=h x (by simp)
   have hy:=h y (by simp)
   have hz:=h z (by simp)
   rw [hb]; simp [aim,mv,blank,L9 hx.1 hx.2 hp,L9 hy.1 hy.2 hp,L9 hz.1 hz.2 hp]
 | _ :: _ :: _ :: _ :: _,h,_ => by simp at h
mutual
def b7Y:Tr → List Nd
 | .mk b ks => a8w ks ++ [blank b]
def a8w:List Tr → List Nd
 | [] => []
 | t :: r => b7Y t ++ a8w r
end
mutual
theorem b0F:∀ (t:Tr) (o:Nat),(flat t o).map blank = b7Y t
 | .mk b ks,o => by rw [flat,List.map_append,a8d ks o,b7Y]; simp [a2N]
theorem a8d:∀ (ks:List Tr) (o:Nat),(s7 ks o).map blank = a8w ks
 | [],o => rfl
 | t :: r,o => by rw [s7,List.map_append,b0F t o,a8d r _,a8w]
end
def j7 (x:List UInt8):List (List UInt8) → Nat → Int
 | [],_ => -1
 | y :: r,i => if y = x then (i:Int) else j7 x r (i + 1)
theorem G7 (x:List UInt8):∀ (l:List (List UInt8)) (i:Nat),j7 x l i = -1 ∨ (i:Int) ≤ j7 x l i ∧ j7 x l i < i + l.length
 | [],i => .inl rfl
 | y :: r,i => by
   rw [j7]
   split
   · right; simp; omega
   · rcases G7 x r (i + 1) with h | h
     · exact .inl h
     · right; simp; omega
def a5z (z:Int):Int ⊕ Unit:=if z = -1 then .inr () else .inl z
theorem a5Z (x:List UInt8):∀ (suf pre:List (List UInt8)),pre.length + suf.length ≤ 1000000 →
  c3R T.rb (pre ++ suf) x ((pre ++ suf).length:Nat) (pre.length:Nat) = some (a5z (j7 x suf pre.length))
 | [],pre,h => c9u (by simp only [b8Z,j9,n8,List.append_nil,cond_false]; rfl)
 | y :: suf,pre,h => c9u (by
   simp only [length_cons] at h
   have ih:=a5Z x suf (pre ++ [y]) (by simp; omega)
   have hpl:(pre ++ [y]).length = pre.length + 1:=by simp
   simp only [List.append_assoc,List.singleton_append] at ih
   simp only [b8Z,g8,a5,a6,cond_true,bind_some,e9 pre y (by omega)]
   by_cases e:y = x
   · subst e
     rw [beq_self_eq_true,cond_true,j7,if_pos rfl,a5z,if_neg (by omega)]
   · rw [beq_eq_false_iff_ne.2 (Ne.symm e),cond_false,j7,if_neg e,← hpl]; exact ih)
theorem a5h {l:List (List UInt8)} (x:List UInt8) (h:l.length ≤ 1000000):d1A T.rf l x = some (j7 x l 0):=d7A (by
 have:=a5Z x l [] (by simpa using h)
 simp only [List.nil_append,length_nil] at this
 rw [show ((0:Nat):Int) = (0:Int) from rfl] at this
 simp only [c4Y,this,bind_some]
 by_cases e:j7 x l 0 = -1
 · rw [e]; rfl
 · rw [a5z,if_neg e])
def atL (at_:List Int) (ks:List Int):List Int:=ks.map fun k => at_.getD k.toNat 0
def Y9 (names:List (List UInt8)) (by_:List (List Nd)):List Nd → List Nd → List Int → List Nd
 | [],o,_ => o
 | n :: r,o,at_ =>
   let o':=if n.1 = 3 ∧ 0 ≤ j7 n.2.2.2.2.2 names 0 then o ++ (norm (by_.getD (j7 n.2.2.2.2.2 names 0).toNat [])).map (mv o.length) else o ++ [aim n (atL at_ (kids n))]
   Y9 names by_ r o' (at_ ++ [(o'.length:Int) - 1])
theorem b8Q {at_:List Int} {k:Int} (h:0 ≤ k) (h2:k < at_.length):nth at_ k.toNat = some (at_.getD k.toNat 0):=by
 rw [nth_getElem?,List.getD_eq_getElem?_getD,List.getElem?_eq_getElem (by omega)]; rfl
theorem b0k (at_:List Int) (hl:at_.length ≤ 1000000):∀ (suf done:List Int),(∀ k ∈ suf,0 ≤ k ∧ k < at_.length) → done.length + suf.length ≤ 3 →
  c0C T.rb at_ (done ++ suf) ((done ++ suf).length:Nat) (done.length:Nat) = some (at_,done ++ atL at_ suf)
 | [],done,h,h2 => c9v (by simp only [b9a,j9,n8,List.append_nil,cond_false,atL,List.map_nil])
 | k :: suf,done,h,h2 => c9v (by
   simp only [length_cons] at h2
   have hk:=h k List.mem_cons_self
   have ih:=b0k at_ hl suf (done ++ [at_.getD k.toNat 0]) (fun q hq => h q (List.mem_cons_of_mem _ hq)) (by simp; omega)
   simp only [List.append_assoc,List.singleton_append] at ih
   have hset:l9 (done ++ k :: suf) ((done.length:Nat):Int).toNat (at_.getD k.toNat 0) = done ++ at_.getD k.toNat 0 :: suf:=by
    rw [E5,Int.toNat_natCast,List.set_append_right _ _ (Nat.le_refl _),Nat.sub_self,List.set_cons_zero]
   have hbl:Nat.blt ((done.length:Nat):Int).toNat (done ++ k :: suf).length = true:=a0v (by simp)
   have hll:(done ++ k :: suf).length = (done ++ at_.getD k.toNat 0 :: suf).length:=by simp
   have hll2:(done ++ [k]).length = (done ++ [at_.getD k.toNat 0]).length:=by simp
   simp only [b9a,g8,a5,a6,cond_true,bind_some,F1 hk.1 hk.2,b8Q hk.1 hk.2,hbl,hset,e9 done k (by omega)]
   rw [hll,hll2,ih,atL,atL,List.map_cons])
theorem b4l (x:List Nd):a9B x ((x.length:Int) - 1) = norm x:=rfl
theorem b0j (names:List (List UInt8)) (by_:List (List Nd)) (hn:names.length ≤ 1000) (hnb:names.length = by_.length) (hby:∀ x ∈ by_,x.length ≤ 1000000) (e:List Nd) (hA:a7r e) (he:e.length ≤ 5001) :
  ∀ (suf pre o:List Nd) (at_:List Int),e = pre ++ suf → at_.length = pre.length → o.length ≤ 5001 * pre.length →
   b4T T.rb o at_ e names by_ (e.length:Nat) (pre.length:Nat) = some (e,Y9 names by_ suf o at_)
 | [],pre,o,at_,h,hat,ho => c1f (by
   rw [h]; simp only [b2H,j9,n8,List.append_nil,cond_false,Y9])
 | n :: suf,pre,o,at_,h,hat,ho => by
   have ih:=fun o' at2 => b0j names by_ hn hnb hby e hA he suf (pre ++ [n]) o' at2 (by rw [h]; simp)
   have hpl:(pre ++ [n]).length = pre.length + 1:=by simp
   have hlt:pre.length < e.length:=by rw [h]; simp
   have a1:decide (((pre.length:Nat):Int) < ((e.length:Nat):Int)) = true:=dt (by omega)
   have a2:inb ((pre.length:Nat):Int) e.length = true:=F1 (by omega) (by omega)
   have a3':nth e pre.length = some n:=by rw [h,nth_getElem?]; simp
   have a3:nth e ((pre.length:Nat):Int).toNat = some n:=by rw [Int.toNat_natCast]; exact a3'
   have a4:IntKind.i64.wrap (((pre.length:Nat):Int) + 1) = ((pre ++ [n]).length:Nat):=e9 pre n (by omega)
   have hk3:=I4 n
   have hal:=hA pre.length n a3'
   have hl2:=b0k at_ (by omega) (kids n) [] (fun k hk => by have:=hal k hk; omega) (by simpa using hk3)
   simp only [List.nil_append,length_nil] at hl2
   rw [show ((0:Nat):Int) = (0:Int) from rfl] at hl2
   have hp:=G7 n.2.2.2.2.2 names 0
   rw [Y9]
   by_cases hc:n.1 = 3 ∧ 0 ≤ j7 n.2.2.2.2.2 names 0
   · have hlt2:j7 n.2.2.2.2.2 names 0 < by_.length:=by omega
     obtain ⟨x,hx⟩:∃ x,nth by_ (j7 n.2.2.2.2.2 names 0).toNat = some x:=⟨_,a1D (by omega)⟩
     have hxg:by_.getD (j7 n.2.2.2.2.2 names 0).toNat [] = x:=by
      rw [nth_getElem?] at hx; rw [List.getD_eq_getElem?_getD,hx]; rfl
     have hxl:x.length ≤ 1000000:=hby x (by rw [nth_getElem?] at hx; exact List.mem_of_getElem? hx)
     have hnl:=Y6 (e:=x)
     rw [if_pos hc,hxg]
     refine c1f ?_
     simp only [b2H,a1,a2,a3,cond_true,bind_some,a5h _ (show names.length ≤ 1000000 by omega),bt hc.1,dt (show j7 n.2.2.2.2.2 names 0 ≥ 0 from hc.2),F1 hc.2 hlt2,hx,b2b hxl,b4w hxl,b4l,
      b0p (show o.length + (norm x).length ≤ 274877906944 by omega),j5 (show at_.length + 1 ≤ 274877906944 by omega),Bool.and_true,a4,
      a3i (show (o ++ (norm x).map (mv o.length)).length < 4611686018427387904 by simp; omega)]
     exact ih _ _ (by simp [hat]) (by rw [hpl]; simp; omega)
   · rw [if_neg hc]
     have hbody:b2H T.rf T.rb o at_ e names by_ (e.length:Nat) (pre.length:Nat) = b4T T.rb (o ++ [aim n (atL at_ (kids n))]) (at_ ++ [((o ++ [aim n (atL at_ (kids n))]).length:Int) - 1]) e names by_ (e.length:Nat) ((pre ++ [n]).length:Nat):=by
      have hw:=a3i (show (o ++ [aim n (atL at_ (kids n))]).length < 4611686018427387904 by simp; omega)
      by_cases h3:n.1 = 3
      · have hneg:¬ j7 n.2.2.2.2.2 names 0 ≥ 0:=fun hh => hc ⟨h3,hh⟩
        simp only [b2H,a1,a2,a3,cond_true,bind_some,a5h _ (show names.length ≤ 1000000 by omega),bt h3,df hneg,cond_false,a1e,hl2,a5c,j5 (show o.length + 1 ≤ 274877906944 by omega),j5 (show at_.length + 1 ≤ 274877906944 by omega),Bool.and_true,a4,hw]
      · simp only [b2H,a1,a2,a3,cond_true,bind_some,a5h _ (show names.length ≤ 1000000 by omega),bf h3,cond_false,a1e,hl2,a5c,j5 (show o.length + 1 ≤ 274877906944 by omega),j5 (show at_.length + 1 ≤ 274877906944 by omega),Bool.and_true,a4,hw]
     exact c1f (hbody.trans (ih _ _ (by simp [hat]) (by rw [hpl]; simp; omega)))
theorem b0W {e:List Nd} (h:e.length ≤ 1000000):d1z T.rf e = some (!s8 e):=d7z (by
 simp only [c4X,a7z h,bind_some])
theorem a5Y:∀ (suf pre:List (List Nd)),(∀ x ∈ suf,x.length ≤ 1000000) → pre.length + suf.length ≤ 1000000 →
  ∃ z,c0B T.rb (pre ++ suf) ((pre ++ suf).length:Nat) (pre.length:Nat) = some z ∧ (match z with
   | .inl j => 0 ≤ j ∧ suf.all s8 = false
   | .inr _ => suf.all s8 = true)
 | [],pre,hx,h => ⟨.inr (),c1e (by simp only [b6Y,j9,n8,List.append_nil,cond_false]),rfl⟩
 | x :: suf,pre,hx,h => by
   simp only [length_cons] at h
   have hxl:=hx x List.mem_cons_self
   obtain ⟨z,ih,hz⟩:=a5Y suf (pre ++ [x]) (fun q hq => hx q (List.mem_cons_of_mem _ hq)) (by simp; omega)
   simp only [List.append_assoc,List.singleton_append] at ih
   cases hm:s8 x with
   | false =>
     refine ⟨.inl (pre.length:Nat),c1e ?_,by omega,by simp [hm]⟩
     simp only [b6Y,g8,a5,a6,cond_true,bind_some,b0W hxl,hm,Bool.not_false]
   | true =>
     refine ⟨z,c1e ?_,?_⟩
     · simp only [b6Y,g8,a5,a6,cond_true,cond_false,bind_some,b0W hxl,hm,Bool.not_true,e9 pre x (by omega)]
       exact ih
     · cases z with
       | inl j => exact ⟨hz.1,by simp only [List.all_cons,hz.2,Bool.and_false]⟩
       | inr j => simp only [List.all_cons,hm,Bool.true_and]; exact hz
theorem b1r {l:List (List Nd)} (hx:∀ x ∈ l,x.length ≤ 1000000) (h:l.length ≤ 1000000):d1x T.rf l = some (!l.all s8):=d7x (by
 obtain ⟨z,hz,hp⟩:=a5Y l [] hx (by simpa using h)
 simp only [List.nil_append,length_nil] at hz
 rw [show ((0:Nat):Int) = (0:Int) from rfl] at hz
 have hI:∀ z,c0B T.rb l (l.length:Nat) 0 = some z → d1y T.rf l = some (match z with
   | .inl j => j
   | .inr _ => -1):=fun z hz => d7y (by
  simp only [c4W,hz]
  cases z <;> rfl)
 simp only [c4V,hI z hz,bind_some]
 cases z with
 | inl j => rw [dt (show (j:Int) ≥ 0 from hp.1),hp.2]; rfl
 | inr j => rw [df (show ¬ ((-1:Int) ≥ 0) by decide),hp]; rfl)
def put (e:List Nd) (names:List (List UInt8)) (by_:List (List Nd)):List Nd :=
 if s8 e = true ∧ names.length = by_.length ∧ by_.all s8 = true then Y9 names by_ (norm e) [] [] else []
theorem a3O {e:List Nd} (h:s8 e = true):a7r (norm e):=(a8I (K2 h).1).ahead
theorem d1e {e:List Nd} {names:List (List UInt8)} {by_:List (List Nd)} (he:e.length ≤ 1000000) (hn:names.length ≤ 1000) (hb:by_.length ≤ 1000) (hby:∀ x ∈ by_,x.length ≤ 1000000):b9W T.rf e names by_ = some (put e names by_):=d7w (by
 simp only [c4U,a7z he,bind_some,put]
 cases hm:s8 e
 · rw [if_neg (by intro hh; cases hh.1)]; rfl
 rw [Bool.not_true,cond_false]
 by_cases hnb:names.length = by_.length
 case neg => rw [nbf (by omega),cond_true,if_neg (fun hh => hnb hh.2.1)]
 rw [nbt (by omega),cond_false,b1r hby (by omega),bind_some]
 cases ha:by_.all s8
 · rw [if_neg (by intro hh; cases hh.2.2)]; rfl
 rw [if_pos ⟨rfl,hnb,rfl⟩,Bool.not_true,cond_false,b2b he,b4w he,b4l,bind_some]
 have hl:=b0j names by_ hn hnb hby (norm e) (a3O hm) Y6 (norm e) [] [] [] rfl rfl (by simp)
 rw [length_nil,show ((0:Nat):Int) = (0:Int) from rfl] at hl
 rw [hl]; rfl)
end Go.Proofs.YtelpjfihadaomaaGreatDoor.R
end
