import Derived.Test.YtelpjfihadaomaaGreatDoorLstA
open Option (bind_some)
open List (length_cons length_nil)
namespace Go.Proofs.YtelpjfihadaomaaGreatDoor.R
open Go Go.Bm Go.Proofs
set_option linter.unusedVariables false
set_option linter.unusedSimpArgs false
set_option maxRecDepth 4000
section
variable {α:Type}
theorem a1t (pre:List α) (x y:α) (suf:List α):l9 (pre ++ x :: suf) pre.length y = pre ++ y :: suf:=by
 induction pre with
 | nil => rfl
 | cons a pre ih => simp only [List.cons_append,length_cons,l9,ih]
theorem a9D (pre suf:List α):(pre ++ suf).take pre.length = pre:=by simp
theorem a7V (pre:List α) (x:α) (suf:List α):(pre ++ x :: suf).drop (pre.length + 1) = suf:=by
 induction pre with
 | nil => rfl
 | cons a pre ih => simp
end
theorem I8 (n:Nat):Nat.beq n n = true:=Nat.beq_refl n
def K9 (q:Eqn):Eqn:=(q.1,norm q.2)
def K3 (x:Itm):Itm:=(x.1,x.2.1,x.2.2.1,norm x.2.2.2.1,norm x.2.2.2.2.1,x.2.2.2.2.2.map norm)
def K4 (u:Unt):Unt:=(u.1,u.2.1,u.2.2.1,u.2.2.2.1,u.2.2.2.2.1,u.2.2.2.2.2.1,u.2.2.2.2.2.2.1.map K9,u.2.2.2.2.2.2.2.map K3)
def D9 (p:Prg):Prg:=(p.1.map K4,p.2)
theorem a1l {e:List Nd} (h:e.length ≤ 1000000):N2 T.rf e = some (norm e):=d7m (by
 simp only [c4N,b2b h,b4w h,bind_some,norm])
theorem b5Y {l:List (List Nd)} (h:l.length ≤ 1000000):b7s T.rf l = some l:=d7p (by
 simp only [c1Z,j5 (show 0 + l.length ≤ 274877906944 by omega),Bool.and_true,cond_true,List.nil_append])
theorem b1y {l:List Pm} (h:l.length ≤ 1000000):N1 T.rf l = some l:=d7j (by
 simp only [c1T,j5 (show 0 + l.length ≤ 274877906944 by omega),Bool.and_true,cond_true,List.nil_append])
theorem c3C {l:List Eqn} (h:l.length ≤ 1000000):a7M T.rf l = some l:=d7k (by
 simp only [c1V,j5 (show 0 + l.length ≤ 274877906944 by omega),Bool.and_true,cond_true,List.nil_append])
theorem c3B {l:List Itm} (h:l.length ≤ 1000000):c3h T.rf l = some l:=d7l (by
 simp only [c1X,j5 (show 0 + l.length ≤ 274877906944 by omega),Bool.and_true,cond_true,List.nil_append])
theorem c3D {l:List Unt} (h:l.length ≤ 1000000):d1w T.rf l = some l:=d7i (by
 simp only [c1R,j5 (show 0 + l.length ≤ 274877906944 by omega),Bool.and_true,cond_true,List.nil_append])
theorem J2 {α:Type} {N:Nat} (pre:List α) (x:α) (suf:List α) (h:N = (pre ++ x :: suf).length):decide (((pre.length:Nat):Int) < ((N:Nat):Int)) = true:=by subst h; exact g8 pre x suf
theorem J1 {α:Type} {N:Nat} (pre:List α) (h:N = (pre ++ []).length):decide (((pre.length:Nat):Int) < ((N:Nat):Int)) = false:=by subst h; exact j9 pre
theorem a2X {α:Type} (pre:List α) (y:α) (h:pre.length < 4611686018427387904):IntKind.i64.wrap ((pre.length:Int) + 1) = ((pre ++ [y]).length:Nat):=e9 pre y h
theorem d8G (D:List Itm) (kd:Int) (nm:Str) (ty:Int) (rest:List Itm) (e f:List Nd) (N:Nat) (hN:N ≤ 1000000):∀ (suf pre:List (List Nd)),N = (pre ++ suf).length → (∀ y ∈ suf,y.length ≤ 1000000) →
  b3h T.rb D kd nm ty rest e f (pre ++ suf) ((D.length:Nat):Int) ((N:Nat):Int) (pre.length:Nat) = some (D,kd,nm,ty,rest,e,f,pre ++ suf.map norm)
 | [],pre,h,_ => c9q (by simp only [b6X,J1 pre h,cond_false,List.map_nil])
 | x :: suf,pre,h,hy => c9q (by
   have ih:=d8G D kd nm ty rest e f N hN suf (pre ++ [norm x]) (by simpa using h) (fun y h => hy y (List.mem_cons_of_mem _ h))
   simp only [List.append_assoc,List.singleton_append] at ih
   have hp:pre.length < 4611686018427387904:=by simp at h; omega
   have hb:Nat.blt (((pre.length:Nat):Int)).toNat (pre ++ x :: suf).length = true:=a0v (by simp)
   simp only [b6X,J2 pre x suf h,Int.toNat_natCast,I8,cond_true,a5,a6,bind_some]
   simp only [Int.toNat_natCast] at hb
   rw [show nth (pre ++ x :: suf) pre.length = some x from by have:=a6 pre x suf; rwa [Int.toNat_natCast] at this]
   simp only [bind_some,hb,cond_true,a1l (hy x (by simp)),a1t,a2X pre (norm x) hp,ih,List.map_cons])
theorem Y7 {α:Type} (pre:List α) (x:α) (suf:List α):nth (pre ++ x :: suf) pre.length = some x:=by have:=a6 pre x suf; rwa [Int.toNat_natCast] at this
theorem d8F (D:List Unt) (k:Bool) (nm o:Str) (t:Int) (rest:List Unt) (i v:List Pm) (q:List Eqn) {n m:Nat} (hn:n ≤ 1000000) (hm:m ≤ 1000000) (N:Nat) (hN:N ≤ 1000000):∀ (suf pre:List Itm),N = (pre ++ suf).length → (∀ y ∈ suf,SzI n m y) →
  c0A T.rb D k nm o t rest i v q (pre ++ suf) ((D.length:Nat):Int) ((N:Nat):Int) (pre.length:Nat) = some (D,k,nm,o,t,rest,i,v,q,pre ++ suf.map K3)
 | [],pre,h,_ => c9p (by simp only [b6W,J1 pre h,cond_false,List.map_nil])
 | x :: suf,pre,h,hy => c9p (by
   have ih:=d8F D k nm o t rest i v q hn hm N hN suf (pre ++ [K3 x]) (by simpa using h) (fun y h => hy y (List.mem_cons_of_mem _ h))
   simp only [List.append_assoc,List.singleton_append] at ih
   have hp:pre.length < 4611686018427387904:=by simp at h; omega
   have hx:=hy x (by simp)
   have h6:=d8G pre x.1 x.2.1 x.2.2.1 suf (norm x.2.2.2.1) (norm x.2.2.2.2.1) x.2.2.2.2.2.length (Nat.le_trans hx.c hn) x.2.2.2.2.2 [] rfl (fun y h => Nat.le_trans (hx.a y h) hm)
   simp only [List.nil_append,length_nil] at h6
   rw [show ((0:Nat):Int) = (0:Int) from rfl] at h6
   have h17:c3Q T.rb pre x.1 x.2.1 x.2.2.1 suf (norm x.2.2.2.1) (norm x.2.2.2.2.1) x.2.2.2.2.2 ((pre.length:Nat):Int) = some (pre,x.1,x.2.1,x.2.2.1,suf,norm x.2.2.2.1,norm x.2.2.2.2.1,x.2.2.2.2.2.map norm):=d6N (by
    simp only [c3b,Int.toNat_natCast,I8,cond_true,h6,bind_some])
   simp only [b6W,J2 pre x suf h,Int.toNat_natCast,I8,cond_true,a5,Y7,bind_some,a9D,a7V,Bool.and_true,a1l (Nat.le_trans hx.e hm),a1l (Nat.le_trans hx.f hm),b5Y (Nat.le_trans hx.c hn),h17,a2X pre (K3 x) hp,List.map_cons]
   exact ih)
theorem d8E (D:List Unt) (k:Bool) (nm o:Str) (t:Int) (rest:List Unt) (i v:List Pm) (its:List Itm) (N:Nat) (hN:N ≤ 1000000):∀ (suf pre:List Eqn),N = (pre ++ suf).length → (∀ y ∈ suf,y.2.length ≤ 1000000) →
  c0z T.rb D k nm o t rest i v (pre ++ suf) its ((D.length:Nat):Int) ((N:Nat):Int) (pre.length:Nat) = some (D,k,nm,o,t,rest,i,v,pre ++ suf.map K9,its)
 | [],pre,h,_ => c9o (by simp only [b6V,J1 pre h,cond_false,List.map_nil])
 | x :: suf,pre,h,hy => c9o (by
   have ih:=d8E D k nm o t rest i v its N hN suf (pre ++ [K9 x]) (by simpa using h) (fun y h => hy y (List.mem_cons_of_mem _ h))
   simp only [List.append_assoc,List.singleton_append] at ih
   have hp:pre.length < 4611686018427387904:=by simp at h; omega
   simp only [b6V,J2 pre x suf h,Int.toNat_natCast,I8,cond_true,a5,Y7,bind_some,a9D,a7V,a1l (hy x (by simp)),a2X pre (K9 x) hp,List.map_cons]
   exact ih)
theorem d8D (mn bk:Str) {n m:Nat} (hn:n ≤ 1000000) (hm:m ≤ 1000000) (N:Nat) (hN:N ≤ 1000000):∀ (suf pre:List Unt),N = (pre ++ suf).length → (∀ y ∈ suf,SzU n m y) →
  c0y T.rb mn bk (pre ++ suf) ((N:Nat):Int) (pre.length:Nat) = some (mn,bk,pre ++ suf.map K4)
 | [],pre,h,_ => c9n (by simp only [b6U,J1 pre h,cond_false,List.map_nil])
 | x :: suf,pre,h,hy => c9n (by
   have ih:=d8D mn bk hn hm N hN suf (pre ++ [K4 x]) (by simpa using h) (fun y h => hy y (List.mem_cons_of_mem _ h))
   simp only [List.append_assoc,List.singleton_append] at ih
   have hp:pre.length < 4611686018427387904:=by simp at h; omega
   have hx:=hy x (by simp)
   have h2:=d8E pre x.1 x.2.1 x.2.2.2.1 x.2.2.2.2.1 suf x.2.2.1 x.2.2.2.2.2.1 x.2.2.2.2.2.2.2 x.2.2.2.2.2.2.1.length (Nat.le_trans hx.q hn) x.2.2.2.2.2.2.1 [] rfl (fun y h => Nat.le_trans (hx.qe y h) hm)
   have h4:=d8F pre x.1 x.2.1 x.2.2.2.1 x.2.2.2.2.1 suf x.2.2.1 x.2.2.2.2.2.1 (x.2.2.2.2.2.2.1.map K9) hn hm x.2.2.2.2.2.2.2.length (Nat.le_trans hx.x hn) x.2.2.2.2.2.2.2 [] rfl (fun y h => hx.xe y h)
   simp only [List.nil_append,length_nil] at h2 h4
   rw [show ((0:Nat):Int) = (0:Int) from rfl] at h2 h4
   have h7:c3P T.rb pre x.1 x.2.1 x.2.2.2.1 x.2.2.2.2.1 suf x.2.2.1 x.2.2.2.2.2.1 x.2.2.2.2.2.2.1 x.2.2.2.2.2.2.2 ((pre.length:Nat):Int) = some (pre,x.1,x.2.1,x.2.2.2.1,x.2.2.2.2.1,suf,x.2.2.1,x.2.2.2.2.2.1,x.2.2.2.2.2.2.1.map K9,x.2.2.2.2.2.2.2.map K3):=d6M (by
    simp only [c3a,Int.toNat_natCast,I8,cond_true,h2,h4,bind_some])
   simp only [b6U,J2 pre x suf h,Int.toNat_natCast,I8,cond_true,a5,Y7,bind_some,a9D,a7V,Bool.and_true,b1y (Nat.le_trans hx.i hn),b1y (Nat.le_trans hx.v hn),c3C (Nat.le_trans hx.q hn),c3B (Nat.le_trans hx.x hn),h7,a2X pre (K4 x) hp,List.map_cons]
   exact ih)
theorem b4u {n m:Nat} {p:Prg} (h:SzP n m p) (hn:n ≤ 1000000) (hm:m ≤ 1000000):d1v T.rf p = some (D9 p):=d7h (by
 have h0:=d8D p.2.1 p.2.2 hn hm p.1.length (Nat.le_trans h.c hn) p.1 [] rfl (fun y hy => h.u y hy)
 simp only [List.nil_append,length_nil] at h0
 rw [show ((0:Nat):Int) = (0:Int) from rfl] at h0
 simp only [c4M,c3D (Nat.le_trans h.c hn),bind_some,h0,D9])
theorem a9j:∀ (s t p q:List Pm),p.length = q.length → s.length = t.length → (p ++ s).length ≤ 1000000 →
  ∃ z,c4j T.rb (p ++ s) (q ++ t) (p.length:Nat) = some z ∧ ((s = t ∧ z = .inr ()) ∨ (s ≠ t ∧ z = .inl false))
 | [],[],p,q,_,_,_ => ⟨.inr (),c1h (by simp only [b7o,j9,cond_false]),.inl ⟨rfl,rfl⟩⟩
 | x :: s,y :: t,p,q,h,h2,h3 => by
   obtain ⟨z,k1,k2⟩:=a9j s t (p ++ [x]) (q ++ [y]) (by simp [h]) (by simpa using h2) (by simpa using h3)
   simp only [List.append_assoc,List.singleton_append] at k1
   have hp:p.length < 4611686018427387904:=by simp at h3; omega
   have e1:inb ((p.length:Nat):Int) (q ++ y :: t).length = true:=by rw [h]; exact a5 q y t
   have e2:nth (q ++ y :: t) (((p.length:Nat):Int)).toNat = some y:=by rw [h]; exact a6 q y t
   by_cases hx:x = y
   · subst hx
     refine ⟨z,c1h ?_,?_⟩
     · simp only [b7o,g8,a5,a6,e1,e2,cond_true,bind_some,beq_self_eq_true,Bool.and_true,Bool.not_true,cond_false,e9 p x hp]
       exact k1
     · rcases k2 with ⟨g,g2⟩ | ⟨g,g2⟩
       · exact .inl ⟨by rw [g],g2⟩
       · exact .inr ⟨by simpa using g,g2⟩
   · have hb:(x.1 == y.1 && x.2 == y.2) = false:=by
      rw [Bool.and_eq_false_iff]
      by_cases h1:x.1 = y.1
      · exact .inr (bf fun h2 => hx (Prod.ext h1 h2))
      · exact .inl (beq_eq_false_iff_ne.2 h1)
     refine ⟨.inl false,c1h ?_,.inr ⟨by simp [hx],rfl⟩⟩
     simp only [b7o,g8,a5,a6,e1,e2,cond_true,bind_some,hb,Bool.not_false]
 | [],_ :: _,_,_,_,h,_ => by simp at h
 | _ :: _,[],_,_,_,h,_ => by simp at h
theorem a9i {a b:List Pm} (h:a.length ≤ 1000000):∃ z,c0c T.rf a b = some z ∧ (z = true ↔ a = b):=by
 by_cases hl:a.length = b.length
 · obtain ⟨z,k1,k2⟩:=a9j a b [] [] rfl hl (by simpa using h)
   simp only [List.nil_append,length_nil] at k1
   rw [show ((0:Nat):Int) = (0:Int) from rfl] at k1
   rcases k2 with ⟨g,rfl⟩ | ⟨g,rfl⟩
   · exact ⟨true,c1m (by simp only [b8o,nbt (show ((a.length:Nat):Int) = ((b.length:Nat):Int) by omega),cond_false,k1,bind_some]),by simp [g]⟩
   · exact ⟨false,c1m (by simp only [b8o,nbt (show ((a.length:Nat):Int) = ((b.length:Nat):Int) by omega),cond_false,k1,bind_some]),by simp [g]⟩
 · exact ⟨false,c1m (by simp only [b8o,nbf (show ((a.length:Nat):Int) ≠ ((b.length:Nat):Int) by omega),cond_true]),by
    constructor
    · intro h; cases h
    · intro h; subst h; exact absurd rfl hl⟩
theorem a9h:∀ (s t p q:List (List Nd)),p.length = q.length → s.length = t.length → (p ++ s).length ≤ 1000000 → (∀ y ∈ s,y.length ≤ 1000000) → (∀ y ∈ t,y.length ≤ 1000000) →
  ∃ z,c4m T.rb (p ++ s) (q ++ t) (p.length:Nat) = some z ∧ ((s = t ∧ z = .inr ()) ∨ (s ≠ t ∧ z = .inl false))
 | [],[],p,q,_,_,_,_,_ => ⟨.inr (),c1j (by simp only [b7q,j9,cond_false]),.inl ⟨rfl,rfl⟩⟩
 | x :: s,y :: t,p,q,h,h2,h3,hs,ht => by
   obtain ⟨z,k1,k2⟩:=a9h s t (p ++ [x]) (q ++ [y]) (by simp [h]) (by simpa using h2) (by simpa using h3) (fun y h => hs y (List.mem_cons_of_mem _ h)) (fun y h => ht y (List.mem_cons_of_mem _ h))
   simp only [List.append_assoc,List.singleton_append] at k1
   have hp:p.length < 4611686018427387904:=by simp at h3; omega
   have e1:inb ((p.length:Nat):Int) (q ++ y :: t).length = true:=by rw [h]; exact a5 q y t
   have e2:nth (q ++ y :: t) (((p.length:Nat):Int)).toNat = some y:=by rw [h]; exact a6 q y t
   have hS:=a7j (a:=x) (b:=y) (by have:=hs x (by simp); omega) (by have:=ht y (by simp); omega)
   by_cases hx:x = y
   · refine ⟨z,c1j ?_,?_⟩
     · simp only [b7q,g8,a5,a6,e1,e2,cond_true,bind_some,hS,dt hx,Bool.not_true,cond_false,e9 p x hp]
       exact k1
     · rcases k2 with ⟨g,g2⟩ | ⟨g,g2⟩
       · exact .inl ⟨by rw [g,hx],g2⟩
       · exact .inr ⟨by simpa [hx] using g,g2⟩
   · refine ⟨.inl false,c1j ?_,.inr ⟨by simp [hx],rfl⟩⟩
     simp only [b7q,g8,a5,a6,e1,e2,cond_true,bind_some,hS,df hx,Bool.not_false]
 | [],_ :: _,_,_,_,h,_,_,_ => by simp at h
 | _ :: _,[],_,_,_,h,_,_,_ => by simp at h
theorem c2r {a b:List (List Nd)} (h:a.length ≤ 1000000) (ha:∀ y ∈ a,y.length ≤ 1000000) (hb:∀ y ∈ b,y.length ≤ 1000000):∃ z,d1P T.rf a b = some z ∧ (z = true ↔ a = b):=by
 by_cases hl:a.length = b.length
 · obtain ⟨z,k1,k2⟩:=a9h a b [] [] rfl hl (by simpa using h) ha hb
   simp only [List.nil_append,length_nil] at k1
   rw [show ((0:Nat):Int) = (0:Int) from rfl] at k1
   rcases k2 with ⟨g,rfl⟩ | ⟨g,rfl⟩
   · exact ⟨true,c1n (by simp only [b8p,nbt (show ((a.length:Nat):Int) = ((b.length:Nat):Int) by omega),cond_false,k1,bind_some]),by simp [g]⟩
   · exact ⟨false,c1n (by simp only [b8p,nbt (show ((a.length:Nat):Int) = ((b.length:Nat):Int) by omega),cond_false,k1,bind_some]),by simp [g]⟩
 · exact ⟨false,c1n (by simp only [b8p,nbf (show ((a.length:Nat):Int) ≠ ((b.length:Nat):Int) by omega),cond_true]),by
    constructor
    · intro h; cases h
    · intro h; subst h; exact absurd rfl hl⟩
theorem Q4 {A:Type} {a b:A} {P:Prop} (hP:¬ P) (h:a = b → P):(false = true ↔ a = b):=⟨fun h => Bool.noConfusion h,fun hh => absurd (h hh) hP⟩
theorem c2t (k k':Bool) (nm nm':Str) (i i':List Pm) (o o':Str) (ty ty':Int) (v v':List Pm) (xs xs':List Itm):∀ (s t p q:List Eqn),p.length = q.length → s.length = t.length → (p ++ s).length ≤ 1000000 → (∀ y ∈ s,y.2.length ≤ 1000000) → (∀ y ∈ t,y.2.length ≤ 1000000) →
  ∃ z,c0L T.rb (k,nm,i,o,ty,v,p ++ s,xs) (k',nm',i',o',ty',v',q ++ t,xs') (p.length:Nat) = some z ∧ ((s = t ∧ z = .inr ((k,nm,i,o,ty,v,p ++ s,xs),(k',nm',i',o',ty',v',q ++ t,xs'))) ∨ (s ≠ t ∧ ∃ a b,z = .inl (a,b,false)))
 | [],[],p,q,_,_,_,_,_ => ⟨_,b6v (by simp only [b4C,j9,cond_false]),.inl ⟨rfl,rfl⟩⟩
 | x :: s,y :: t,p,q,h,h2,h3,hs,ht => by
   obtain ⟨z,k1,k2⟩:=c2t k k' nm nm' i i' o o' ty ty' v v' xs xs' s t (p ++ [x]) (q ++ [y]) (by simp [h]) (by simpa using h2) (by simpa using h3) (fun y h => hs y (List.mem_cons_of_mem _ h)) (fun y h => ht y (List.mem_cons_of_mem _ h))
   simp only [List.append_assoc,List.singleton_append] at k1 k2
   have hp:p.length < 4611686018427387904:=by simp at h3; omega
   have e1:inb ((p.length:Nat):Int) (q ++ y :: t).length = true:=by rw [h]; exact a5 q y t
   have e2:nth (q ++ y :: t) (((p.length:Nat):Int)).toNat = some y:=by rw [h]; exact a6 q y t
   have hS:=a7j (a:=x.2) (b:=y.2) (by have:=hs x (by simp); omega) (by have:=ht y (by simp); omega)
   by_cases hn:x.1 = y.1
   · by_cases hx:x.2 = y.2
     · have hxy:x = y:=Prod.ext hn hx
       refine ⟨z,b6v ?_,?_⟩
       · simp only [b4C,g8,a5,a6,e1,e2,cond_true,bind_some,beq_iff_eq.2 hn,Bool.not_true,cond_false,hS,dt hx,e9 p x hp]
         exact k1
       · rcases k2 with ⟨g,g2⟩ | ⟨g,g2⟩
         · exact .inl ⟨by rw [g,hxy],g2⟩
         · exact .inr ⟨by simpa [hxy] using g,g2⟩
     · refine ⟨.inl ((k,nm,i,o,ty,v,p ++ x :: s,xs),(k',nm',i',o',ty',v',q ++ y :: t,xs'),false),b6v ?_,.inr ⟨fun hh => hx (by cases hh; rfl),_,_,rfl⟩⟩
       simp only [b4C,g8,a5,a6,e1,e2,cond_true,bind_some,beq_iff_eq.2 hn,Bool.not_true,cond_false,hS,df hx,Bool.not_false]
   · refine ⟨.inl ((k,nm,i,o,ty,v,p ++ x :: s,xs),(k',nm',i',o',ty',v',q ++ y :: t,xs'),false),b6v ?_,.inr ⟨fun hh => hn (by cases hh; rfl),_,_,rfl⟩⟩
     simp only [b4C,g8,a5,a6,e1,e2,cond_true,bind_some,beq_eq_false_iff_ne.2 hn,Bool.not_false]
 | [],_ :: _,_,_,_,h,_,_,_ => by simp at h
 | _ :: _,[],_,_,_,h,_,_,_ => by simp at h
theorem c2u {n m:Nat} (hnn:n ≤ 1000000) (hmm:m ≤ 1000000) (k k':Bool) (nm nm':Str) (i i':List Pm) (o o':Str) (ty ty':Int) (v v':List Pm) (qs qs':List Eqn):∀ (s t p q:List Itm),p.length = q.length → s.length = t.length → (p ++ s).length ≤ 1000000 → (∀ y ∈ s,SzI n m y) → (∀ y ∈ t,SzI n m y) →
  ∃ z,c0M T.rb (k,nm,i,o,ty,v,qs,p ++ s) (k',nm',i',o',ty',v',qs',q ++ t) (p.length:Nat) = some z ∧ ((s = t ∧ ∃ a,z = .inr a) ∨ (s ≠ t ∧ ∃ a b,z = .inl (a,b,false)))
 | [],[],p,q,_,_,_,_,_ => ⟨_,a6x (by simp only [a7J,j9,cond_false]; rfl),.inl ⟨rfl,_,rfl⟩⟩
 | x :: s,y :: t,p,q,h,h2,h3,hs,ht => by
   obtain ⟨z,k1,k2⟩:=c2u hnn hmm k k' nm nm' i i' o o' ty ty' v v' qs qs' s t (p ++ [x]) (q ++ [y]) (by simp [h]) (by simpa using h2) (by simpa using h3) (fun y h => hs y (List.mem_cons_of_mem _ h)) (fun y h => ht y (List.mem_cons_of_mem _ h))
   simp only [List.append_assoc,List.singleton_append] at k1
   have hp:p.length < 4611686018427387904:=by simp at h3; omega
   have hx:=hs x (by simp)
   have hy:=ht y (by simp)
   have e1:inb ((p.length:Nat):Int) (q ++ y :: t).length = true:=by rw [h]; exact a5 q y t
   have e2:nth (q ++ y :: t) (((p.length:Nat):Int)).toNat = some y:=by rw [h]; exact a6 q y t
   have hE:=a7j (a:=x.2.2.2.1) (b:=y.2.2.2.1) (by have:=hx.e; omega) (by have:=hy.e; omega)
   have hF:=a7j (a:=x.2.2.2.2.1) (b:=y.2.2.2.2.1) (by have:=hx.f; omega) (by have:=hy.f; omega)
   obtain ⟨za,a1,a2⟩:=c2r (a:=x.2.2.2.2.2) (b:=y.2.2.2.2.2) (Nat.le_trans hx.c hnn) (fun w hw => Nat.le_trans (hx.a w hw) hmm) (fun w hw => Nat.le_trans (hy.a w hw) hmm)
   by_cases c1:x.1 = y.1
   case neg => exact ⟨_,a6x (by simp only [a7J,g8,a5,a6,e1,e2,cond_true,bind_some,nbf c1]; rfl),.inr ⟨fun hh => c1 (by cases hh; rfl),_,_,rfl⟩⟩
   by_cases c2:x.2.1 = y.2.1
   case neg => exact ⟨_,a6x (by simp only [a7J,g8,a5,a6,e1,e2,cond_true,bind_some,nbt c1,cond_false,beq_eq_false_iff_ne.2 c2,Bool.not_false]; rfl),.inr ⟨fun hh => c2 (by cases hh; rfl),_,_,rfl⟩⟩
   by_cases c3:x.2.2.1 = y.2.2.1
   case neg => exact ⟨_,a6x (by simp only [a7J,g8,a5,a6,e1,e2,cond_true,bind_some,nbt c1,cond_false,beq_iff_eq.2 c2,Bool.not_true,nbf c3]; rfl),.inr ⟨fun hh => c3 (by cases hh; rfl),_,_,rfl⟩⟩
   by_cases c4:x.2.2.2.1 = y.2.2.2.1
   case neg => exact ⟨_,a6x (by simp only [a7J,g8,a5,a6,e1,e2,cond_true,bind_some,nbt c1,cond_false,beq_iff_eq.2 c2,Bool.not_true,nbt c3,hE,df c4,Bool.not_false]; rfl),.inr ⟨fun hh => c4 (by cases hh; rfl),_,_,rfl⟩⟩
   by_cases c5:x.2.2.2.2.1 = y.2.2.2.2.1
   case neg => exact ⟨_,a6x (by simp only [a7J,g8,a5,a6,e1,e2,cond_true,bind_some,nbt c1,cond_false,beq_iff_eq.2 c2,Bool.not_true,nbt c3,hE,dt c4,hF,df c5,Bool.not_false]; rfl),.inr ⟨fun hh => c5 (by cases hh; rfl),_,_,rfl⟩⟩
   cases za with
   | false =>
     have c6:x.2.2.2.2.2 ≠ y.2.2.2.2.2:=fun hh => by have:=a2.2 hh; cases this
     exact ⟨_,a6x (by simp only [a7J,g8,a5,a6,e1,e2,cond_true,bind_some,nbt c1,cond_false,beq_iff_eq.2 c2,Bool.not_true,nbt c3,hE,dt c4,hF,dt c5,a1,Bool.not_false]; rfl),.inr ⟨fun hh => c6 (by cases hh; rfl),_,_,rfl⟩⟩
   | true =>
     have hxy:x = y:=Prod.ext c1 (Prod.ext c2 (Prod.ext c3 (Prod.ext c4 (Prod.ext c5 (a2.1 rfl)))))
     refine ⟨z,a6x ?_,?_⟩
     · simp only [a7J,g8,a5,a6,e1,e2,cond_true,bind_some,nbt c1,cond_false,beq_iff_eq.2 c2,Bool.not_true,nbt c3,hE,dt c4,hF,dt c5,a1,e9 p x hp]
       exact k1
     · rcases k2 with ⟨g,g2⟩ | ⟨g,g2⟩
       · exact .inl ⟨by rw [g,hxy],g2⟩
       · exact .inr ⟨by simpa [hxy] using g,g2⟩
 | [],_ :: _,_,_,_,h,_,_,_ => by simp at h
 | _ :: _,[],_,_,_,h,_,_,_ => by simp at h
theorem c2v {n m:Nat} (hn:n ≤ 1000000) (hm:m ≤ 1000000) {a b:Unt} (ha:SzU n m a) (hb:SzU n m b):∃ z,c3z T.rf a b = some z ∧ (z = true ↔ a = b):=by
 obtain ⟨zi,i1,i2⟩:=a9i (a:=a.2.2.1) (b:=b.2.2.1) (Nat.le_trans ha.i hn)
 obtain ⟨zv,v1,v2⟩:=a9i (a:=a.2.2.2.2.2.1) (b:=b.2.2.2.2.2.1) (Nat.le_trans ha.v hn)
 by_cases c1:a.1 = b.1
 case neg => exact ⟨false,a6z (by simp only [a8W,beq_eq_false_iff_ne.2 c1,Bool.not_false,cond_true]),Q4 c1 (fun h => by rw [h])⟩
 by_cases c2:a.2.1 = b.2.1
 case neg => exact ⟨false,a6z (by simp only [a8W,beq_iff_eq.2 c1,Bool.not_true,cond_false,beq_eq_false_iff_ne.2 c2,Bool.not_false,cond_true]),Q4 c2 (fun h => by rw [h])⟩
 cases zi with
 | false => exact ⟨false,a6z (by simp only [a8W,beq_iff_eq.2 c1,Bool.not_true,cond_false,beq_iff_eq.2 c2,i1,bind_some,Bool.not_false,cond_true]),Q4 (P:=a.2.2.1 = b.2.2.1) (fun h => by have:=i2.2 h; cases this) (fun h => by rw [h])⟩
 | true =>
 by_cases c3:a.2.2.2.1 = b.2.2.2.1 ∧ a.2.2.2.2.1 = b.2.2.2.2.1
 case neg =>
  have hh:(a.2.2.2.1 == b.2.2.2.1 && a.2.2.2.2.1 == b.2.2.2.2.1) = false:=by
   rw [Bool.and_eq_false_iff]
   by_cases h1:a.2.2.2.1 = b.2.2.2.1
   · exact .inr (bf fun h2 => c3 ⟨h1,h2⟩)
   · exact .inl (beq_eq_false_iff_ne.2 h1)
  exact ⟨false,a6z (by simp only [a8W,beq_iff_eq.2 c1,Bool.not_true,cond_false,beq_iff_eq.2 c2,i1,bind_some,hh,Bool.not_false,cond_true]),Q4 c3 (fun h => by rw [h]; exact ⟨rfl,rfl⟩)⟩
 have h3:(a.2.2.2.1 == b.2.2.2.1 && a.2.2.2.2.1 == b.2.2.2.2.1) = true:=by rw [beq_iff_eq.2 c3.1,bt c3.2]; rfl
 cases zv with
 | false => exact ⟨false,a6z (by simp only [a8W,beq_iff_eq.2 c1,Bool.not_true,cond_false,beq_iff_eq.2 c2,i1,bind_some,h3,v1,Bool.not_false,cond_true]),Q4 (P:=a.2.2.2.2.2.1 = b.2.2.2.2.2.1) (fun h => by have:=v2.2 h; cases this) (fun h => by rw [h])⟩
 | true =>
 by_cases c4:a.2.2.2.2.2.2.1.length = b.2.2.2.2.2.2.1.length
 case neg => exact ⟨false,a6z (by simp only [a8W,beq_iff_eq.2 c1,Bool.not_true,cond_false,beq_iff_eq.2 c2,i1,bind_some,h3,v1,nbf (show ((a.2.2.2.2.2.2.1.length:Nat):Int) ≠ ((b.2.2.2.2.2.2.1.length:Nat):Int) by omega),cond_true]),Q4 c4 (fun h => by rw [h])⟩
 by_cases c5:a.2.2.2.2.2.2.2.length = b.2.2.2.2.2.2.2.length
 case neg => exact ⟨false,a6z (by simp only [a8W,beq_iff_eq.2 c1,Bool.not_true,cond_false,beq_iff_eq.2 c2,i1,bind_some,h3,v1,nbt (show ((a.2.2.2.2.2.2.1.length:Nat):Int) = ((b.2.2.2.2.2.2.1.length:Nat):Int) by omega),nbf (show ((a.2.2.2.2.2.2.2.length:Nat):Int) ≠ ((b.2.2.2.2.2.2.2.length:Nat):Int) by omega),cond_true]),Q4 c5 (fun h => by rw [h])⟩
 obtain ⟨z0,k1,k2⟩:=c2t a.1 b.1 a.2.1 b.2.1 a.2.2.1 b.2.2.1 a.2.2.2.1 b.2.2.2.1 a.2.2.2.2.1 b.2.2.2.2.1 a.2.2.2.2.2.1 b.2.2.2.2.2.1 a.2.2.2.2.2.2.2 b.2.2.2.2.2.2.2 a.2.2.2.2.2.2.1 b.2.2.2.2.2.2.1 [] [] rfl c4 (Nat.le_trans ha.q hn) (fun y h => Nat.le_trans (ha.qe y h) hm) (fun y h => Nat.le_trans (hb.qe y h) hm)
 obtain ⟨z2,l1,l2⟩:=c2u hn hm a.1 b.1 a.2.1 b.2.1 a.2.2.1 b.2.2.1 a.2.2.2.1 b.2.2.2.1 a.2.2.2.2.1 b.2.2.2.2.1 a.2.2.2.2.2.1 b.2.2.2.2.2.1 a.2.2.2.2.2.2.1 b.2.2.2.2.2.2.1 a.2.2.2.2.2.2.2 b.2.2.2.2.2.2.2 [] [] rfl c5 (Nat.le_trans ha.x hn) (fun y h => ha.xe y h) (fun y h => hb.xe y h)
 simp only [List.nil_append,length_nil] at k1 k2 l1
 rw [show ((0:Nat):Int) = (0:Int) from rfl] at k1 l1
 have base:∀ z,(c0L T.rb a b 0).bind (fun z3 => match z3 with
   | .inl u4 => some u4.2.2
   | .inr w5 => (c0M T.rb w5.1 w5.2 0).bind fun z6 => match z6 with
     | .inl u7 => some u7.2.2
     | .inr w8 => some true) = some z → c3z T.rf a b = some z:=fun z hz => a6z (by
  simp only [a8W,beq_iff_eq.2 c1,Bool.not_true,cond_false,beq_iff_eq.2 c2,i1,bind_some,h3,v1,nbt (show ((a.2.2.2.2.2.2.1.length:Nat):Int) = ((b.2.2.2.2.2.2.1.length:Nat):Int) by omega),nbt (show ((a.2.2.2.2.2.2.2.length:Nat):Int) = ((b.2.2.2.2.2.2.2.length:Nat):Int) by omega)]
  exact hz)
 rcases k2 with ⟨g,rfl⟩ | ⟨g,_,_,rfl⟩
 · rcases l2 with ⟨g',_,rfl⟩ | ⟨g',_,_,rfl⟩
   · exact ⟨true,base _ (by rw [k1,bind_some]; simp only; rw [l1,bind_some]),⟨fun _ => Prod.ext c1 (Prod.ext c2 (Prod.ext (i2.1 rfl) (Prod.ext c3.1 (Prod.ext c3.2 (Prod.ext (v2.1 rfl) (Prod.ext g g')))))),fun _ => rfl⟩⟩
   · exact ⟨false,base _ (by rw [k1,bind_some]; simp only; rw [l1,bind_some]),Q4 g' (fun h => by rw [h])⟩
 · exact ⟨false,base _ (by rw [k1,bind_some]),Q4 g (fun h => by rw [h])⟩
theorem c2s {n m:Nat} (hnn:n ≤ 1000000) (hmm:m ≤ 1000000) (mn mn' bk bk':Str):∀ (s t p q:List Unt),p.length = q.length → s.length = t.length → (p ++ s).length ≤ 1000000 → (∀ y ∈ s,SzU n m y) → (∀ y ∈ t,SzU n m y) →
  ∃ z,c4k T.rb (p ++ s,mn,bk) (q ++ t,mn',bk') (p.length:Nat) = some z ∧ ((s = t ∧ ∃ a,z = .inr a) ∨ (s ≠ t ∧ ∃ a b,z = .inl (a,b,false)))
 | [],[],p,q,_,_,_,_,_ => ⟨_,c1i (by simp only [b7p,j9,cond_false]; rfl),.inl ⟨rfl,_,rfl⟩⟩
 | x :: s,y :: t,p,q,h,h2,h3,hs,ht => by
   obtain ⟨z,k1,k2⟩:=c2s hnn hmm mn mn' bk bk' s t (p ++ [x]) (q ++ [y]) (by simp [h]) (by simpa using h2) (by simpa using h3) (fun y h => hs y (List.mem_cons_of_mem _ h)) (fun y h => ht y (List.mem_cons_of_mem _ h))
   simp only [List.append_assoc,List.singleton_append] at k1
   have hp:p.length < 4611686018427387904:=by simp at h3; omega
   have e1:inb ((p.length:Nat):Int) (q ++ y :: t).length = true:=by rw [h]; exact a5 q y t
   have e2:nth (q ++ y :: t) (((p.length:Nat):Int)).toNat = some y:=by rw [h]; exact a6 q y t
   obtain ⟨zu,a1,a2⟩:=c2v hnn hmm (hs x (by simp)) (ht y (by simp))
   cases zu with
   | false =>
     have c6:x ≠ y:=fun hh => by have:=a2.2 hh; cases this
     exact ⟨_,c1i (by simp only [b7p,g8,a5,a6,e1,e2,cond_true,bind_some,a1,Bool.not_false]; rfl),.inr ⟨fun hh => c6 (by cases hh; rfl),_,_,rfl⟩⟩
   | true =>
     have hxy:x = y:=a2.1 rfl
     refine ⟨z,c1i ?_,?_⟩
     · simp only [b7p,g8,a5,a6,e1,e2,cond_true,bind_some,a1,Bool.not_true,cond_false,e9 p x hp]
       exact k1
     · rcases k2 with ⟨g,g2⟩ | ⟨g,g2⟩
       · exact .inl ⟨by rw [g,hxy],g2⟩
       · exact .inr ⟨by simpa [hxy] using g,g2⟩
 | [],_ :: _,_,_,_,h,_,_,_ => by simp at h
 | _ :: _,[],_,_,_,h,_,_,_ => by simp at h
theorem d2W {n m:Nat} (hn:n ≤ 1000000) (hm:m ≤ 1000000) {a b:Prg} (ha:SzP n m a) (hb:SzP n m b):∃ z,a7N T.rf a b = some z ∧ (z = true ↔ a = b):=by
 by_cases c1:a.2.1 = b.2.1
 case neg => exact ⟨false,b3x (by simp only [b3M,beq_eq_false_iff_ne.2 c1,Bool.not_false,cond_true]),Q4 c1 (fun h => by rw [h])⟩
 by_cases c2:a.2.2 = b.2.2
 case neg => exact ⟨false,b3x (by simp only [b3M,beq_iff_eq.2 c1,Bool.not_true,cond_false,beq_eq_false_iff_ne.2 c2,Bool.not_false,cond_true]),Q4 c2 (fun h => by rw [h])⟩
 by_cases c3:a.1.length = b.1.length
 case neg => exact ⟨false,b3x (by simp only [b3M,beq_iff_eq.2 c1,Bool.not_true,cond_false,beq_iff_eq.2 c2,nbf (show ((a.1.length:Nat):Int) ≠ ((b.1.length:Nat):Int) by omega),cond_true]),Q4 c3 (fun h => by rw [h])⟩
 obtain ⟨z0,k1,k2⟩:=c2s hn hm a.2.1 b.2.1 a.2.2 b.2.2 a.1 b.1 [] [] rfl c3 (Nat.le_trans ha.c hn) (fun y h => ha.u y h) (fun y h => hb.u y h)
 simp only [List.nil_append,length_nil] at k1
 rw [show ((0:Nat):Int) = (0:Int) from rfl] at k1
 have hl:=nbt (show ((a.1.length:Nat):Int) = ((b.1.length:Nat):Int) by omega)
 rcases k2 with ⟨g,_,rfl⟩ | ⟨g,_,_,rfl⟩
 · exact ⟨true,b3x (by simp only [b3M,beq_iff_eq.2 c1,Bool.not_true,cond_false,beq_iff_eq.2 c2,hl,k1,bind_some]),⟨fun _ => Prod.ext g (Prod.ext c1 c2),fun _ => rfl⟩⟩
 · exact ⟨false,b3x (by simp only [b3M,beq_iff_eq.2 c1,Bool.not_true,cond_false,beq_iff_eq.2 c2,hl,k1,bind_some]),Q4 g (fun h => by rw [h])⟩
end Go.Proofs.YtelpjfihadaomaaGreatDoor.R
