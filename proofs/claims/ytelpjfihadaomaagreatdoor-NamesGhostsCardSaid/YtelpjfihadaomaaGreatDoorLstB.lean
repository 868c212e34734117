import Derived.Test.YtelpjfihadaomaaGreatDoorLstA
open Option (bind_some)
namespace Go.Proofs.YtelpjfihadaomaaGreatDoor.R
open Go Go.Bm Go.Proofs
set_option linter.unusedVariables false
set_option linter.unusedSimpArgs false
set_option maxRecDepth 4000
section
variable {α:Type}
theorem a1t (pre:List α) (x y:α) (suf:List α):l9 (pre ++ x :: suf) pre.length y = pre ++ y :: suf:=by
 induction pre with
 | nil => rfl
 | cons a pre ih => simp only [List.cons_append,List.length_cons,l9,ih]
theorem a9D (pre suf:List α):(pre ++ suf).take pre.length = pre:=by simp
theorem a7V (pre:List α) (x:α) (suf:List α):(pre ++ x :: suf).drop (pre.length + 1) = suf:=by
 induction pre with
 | nil => rfl
 | cons a pre ih => simp
end
theorem I8 (n:Nat):Nat.beq n n = true:=Nat.beq_refl n
def K9 (q:Eqn):Eqn:=(q.1,norm q.2)
def K3 (x:Itm):Itm:=(x.1,x.2.1,x.2.2.1,norm x.2.2.2.1,norm x.2.2.2.2.1,x.2.2.2.2.2.map norm)
def K4 (u:Unt):Unt:=(u.1,u.2.1,u.2.2.1,u.2.2.2.1,u.2.2.2.2.1,u.2.2.2.2.2.1,u.2.2.2.2.2.2.1.map K9,u.2.2.2.2.2.2.2.map K3)
def D9 (p:Prg):Prg:=(p.1.map K4,p.2)
theorem a1l {e:List Nd} (h:e.length ≤ 1000000):N2 T.rf e = some (norm e):=d7m (by
 simp only [c4N,b2b h,b4w h,bind_some,norm])
theorem b5Y {l:List (List Nd)} (h:l.length ≤ 1000000):b7s T.rf l = some l:=d7p (by
 simp only [c1Z,j5 (show 0 + l.length ≤ 274877906944 by omega),Bool.and_true,cond_true,List.nil_append])
theorem b1y {l:List Pm} (h:l.length ≤ 1000000):N1 T.rf l = some l:=d7j (by
 simp only [c1T,j5 (show 0 + l.length ≤ 274877906944 by omega),Bool.and_true,cond_true,List.nil_append])
theorem c3C {l:List Eqn} (h:l.length ≤ 1000000):a7M T.rf l = some l:=d7k (by
 simp only [c1V,j5 (show 0 + l.length ≤ 274877906944 by omega),Bool.and_true,cond_true,List.nil_append])
theorem c3B {l:List Itm} (h:l.length ≤ 1000000):c3h T.rf l = some l:=d7l (by
 simp only [c1X,j5 (show 0 + l.length ≤ 274877906944 by omega),Bool.and_true,cond_true,List.nil_append])
theorem c3D {l:List Unt} (h:l.length ≤ 1000000):d1w T.rf l = some l:=d7i (by
 simp only [c1R,j5 (show 0 + l.length ≤ 274877906944 by omega),Bool.and_true,cond_true,List.nil_append])
theorem J2 {α:Type} {N:Nat} (pre:List α) (x:α) (suf:List α) (h:N = (pre ++ x :: suf).length):decide (((pre.length:Nat):Int) < ((N:Nat):Int)) = true:=by subst h; exact g8 pre x suf
theorem J1 {α:Type} {N:Nat} (pre:List α) (h:N = (pre ++ []).length):decide (((pre.length:Nat):Int) < ((N:Nat):Int)) = false:=by subst h; exact j9 pre
theorem a2X {α:Type} (pre:List α) (y:α) (h:pre.length < 4611686018427387904):IntKind.i64.wrap ((pre.length:Int) + 1) = ((pre ++ [y]).length:Nat):=e9 pre y h
theorem d8G (D:List Itm) (kd:Int) (nm:Str) (ty:Int) (rest:List Itm) (e f:List Nd) (N:Nat) (hN:N ≤ 1000000):∀ (suf pre:List (List Nd)),N = (pre ++ suf).length → (∀ y ∈ suf,y.length ≤ 1000000) →
  b3h T.rb D kd nm ty rest e f (pre ++ suf) ((D.length:Nat):Int) ((N:Nat):Int) (pre.length:Nat) = some (D,kd,nm,ty,rest,e,f,pre ++ suf.map norm)
 | [],pre,h,_ => c9q (by simp only [b6X,J1 pre h,cond_false,List.map_nil])
 | x :: suf,pre,h,hy => c9q (by
   have ih:=d8G D kd nm ty rest e f N hN suf (pre ++ [norm x]) (by simpa using h) (fun y h => hy y (List.mem_cons_of_mem _ h))
   simp only [List.append_assoc,List.singleton_append] at ih
   have hp:pre.length < 4611686018427387904:=by simp at h; omega
   have hb:Nat.blt (((pre.length:Nat):Int)).toNat (pre ++ x :: suf).length = true:=a0v (by simp)
   simp only [b6X,J2 pre x suf h,Int.toNat_natCast,I8,cond_true,a5,a6,bind_some]
   simp only [Int.toNat_natCast] at hb
   rw [show nth (pre ++ x :: suf) pre.length = some x from by have:=a6 pre x suf; rwa [Int.toNat_natCast] at this]
   simp only [bind_some,hb,cond_true,a1l (hy x (by simp)),a1t,a2X pre (norm x) hp,ih,List.map_cons])
theorem Y7 {α:Type} (pre:List α) (x:α) (suf:List α):nth (pre ++ x :: suf) pre.length = some x:=by have:=a6 pre x suf; rwa [Int.toNat_natCast] at this
theorem d8F (D:List Unt) (k:Bool) (nm o:Str) (t:Int) (rest:List Unt) (i v:List Pm) (q:List Eqn) {n m:Nat} (hn:n ≤ 1000000) (hm:m ≤ 1000000) (N:Nat) (hN:N ≤ 1000000):∀ (suf pre:List Itm),N = (pre ++ suf).length → (∀ y ∈ suf,SzI n m y) →
  c0A T.rb D k nm o t rest i v q (pre ++ suf) ((D.length:Nat):Int) ((N:Nat):Int) (pre.length:Nat) = some (D,k,nm,o,t,rest,i,v,q,pre ++ suf.map K3)
 | [],pre,h,_ => c9p (by simp only [b6W,J1 pre h,cond_false,List.map_nil])
 | x :: suf,pre,h,hy => c9p (by
   have ih:=d8F D k nm o t rest i v q hn hm N hN suf (pre ++ [K3 x]) (by simpa using h) (fun y h => hy y (List.mem_cons_of_mem _ h))
   simp only [List.append_assoc,List.singleton_append] at ih
   have hp:pre.length < 4611686018427387904:=by simp at h; omega
   have hx:=hy x (by simp)
   have h6:=d8G pre x.1 x.2.1 x.2.2.1 suf (norm x.2.2.2.1) (norm x.2.2.2.2.1) x.2.2.2.2.2.length (Nat.le_trans hx.c hn) x.2.2.2.2.2 [] rfl (fun y h => Nat.le_trans (hx.a y h) hm)
   simp only [List.nil_append,List.length_nil] at h6
   rw [show ((0:Nat):Int) = (0:Int) from rfl] at h6
   have h17:c3Q T.rb pre x.1 x.2.1 x.2.2.1 suf (norm x.2.2.2.1) (norm x.2.2.2.2.1) x.2.2.2.2.2 ((pre.length:Nat):Int) = some (pre,x.1,x.2.1,x.2.2.1,suf,norm x.2.2.2.1,norm x.2.2.2.2.1,x.2.2.2.2.2.map norm):=d6N (by
    simp only [c3b,Int.toNat_natCast,I8,cond_true,h6,bind_some])
   simp only [b6W,J2 pre x suf h,Int.toNat_natCast,I8,cond_true,a5,Y7,bind_some,a9D,a7V,Bool.and_true,a1l (Nat.le_trans hx.e hm),a1l (Nat.le_trans hx.f hm),b5Y (Nat.le_trans hx.c hn),h17,a2X pre (K3 x) hp,List.map_cons]
   exact ih)
theorem d8E (D:List Unt) (k:Bool) (nm o:Str) (t:Int) (rest:List Unt) (i v:List Pm) (its:List Itm) (N:Nat) (hN:N ≤ 1000000):∀ (suf pre:List Eqn),N = (pre ++ suf).length → (∀ y ∈ suf,y.2.length ≤ 1000000) →
  c0z T.rb D k nm o t rest i v (pre ++ suf) its ((D.length:Nat):Int) ((N:Nat):Int) (pre.length:Nat) = some (D,k,nm,o,t,rest,i,v,pre ++ suf.map K9,its)
 | [],pre,h,_ => c9o (by simp only [b6V,J1 pre h,cond_false,List.map_nil])
 | x :: suf,pre,h,hy => c9o (by
   have ih:=d8E D k nm o t rest i v its N hN suf (pre ++ [K9 x]) (by simpa using h) (fun y h => hy y (List.mem_cons_of_mem _ h))
   simp only [List.append_assoc,List.singleton_append] at ih
   have hp:pre.length < 4611686018427387904:=by simp at h; omega
   simp only [b6V,J2 pre x suf h,Int.toNat_natCast,I8,cond_true,a5,Y7,bind_some,a9D,a7V,a1l (hy x (by simp)),a2X pre (K9 x) hp,List.map_cons]
   exact ih)
theorem d8D (mn bk:Str) {n m:Nat} (hn:n ≤ 1000000) (hm:m ≤ 1000000) (N:Nat) (hN:N ≤ 1000000):∀ (suf pre:List Unt),N = (pre ++ suf).length → (∀ y ∈ suf,SzU n m y) →
  c0y T.rb mn bk (pre ++ suf) ((N:Nat):Int) (pre.length:Nat) = some (mn,bk,pre ++ suf.map K4)
 | [],pre,h,_ => c9n (by simp only [b6U,J1 pre h,cond_false,List.map_nil])
 | x :: suf,pre,h,hy => c9n (by
   have ih:=d8D mn bk hn hm N hN suf (pre ++ [K4 x]) (by simpa using h) (fun y h => hy y (List.mem_cons_of_mem _ h))
   simp only [List.append_assoc,List.singleton_append] at ih
   have hp:pre.length < 4611686018427387904:=by simp at h; omega
   have hx:=hy x (by simp)
   have h2:=d8E pre x.1 x.2.1 x.2.2.2.1 x.2.2.2.2.1 suf x.2.2.1 x.2.2.2.2.2.1 x.2.2.2.2.2.2.2 x.2.2.2.2.2.2.1.length (Nat.le_trans hx.q hn) x.2.2.2.2.2.2.1 [] rfl (fun y h => Nat.le_trans (hx.qe y h) hm)
   have h4:=d8F pre x.1 x.2.1 x.2.2.2.1 x.2.2.2.2.1 suf x.2.2.1 x.2.2.2.2.2.1 (x.2.2.2.2.2.2.1.map K9) hn hm x.2.2.2.2.2.2.2.length (Nat.le_trans hx.x hn) x.2.2.2.2.2.2.2 [] rfl (fun y h => hx.xe y h)
   simp only [List.nil_append,List.length_nil] at h2 h4
   rw [show ((0:Nat):Int) = (0:Int) from rfl] at h2 h4
   have h7:c3P T.rb pre x.1 x.2.1 x.2.2.2.1 x.2.2.2.2.1 suf x.2.2.1 x.2.2.2.2.2.1 x.2.2.2.2.2.2.1 x.2.2.2.2.2.2.2 ((pre.length:Nat):Int) = some (pre,x.1,x.2.1,x.2.2.2.1,x.2.2.2.2.1,suf,x.2.2.1,x.2.2.2.2.2.1,x.2.2.2.2.2.2.1.map K9,x.2.2.2.2.2.2.2.map K3):=d6M (by
    simp only [c3a,Int.toNat_natCast,I8,cond_true,h2,h4,bind_some])
   simp only [b6U,J2 pre x suf h,Int.toNat_natCast,I8,cond_true,a5,Y7,bind_some,a9D,a7V,Bool.and_true,b1y (Nat.le_trans hx.i hn),b1y (Nat.le_trans hx.v hn),c3C (Nat.le_trans hx.q hn),c3B (Nat.le_trans hx.x hn),h7,a2X pre (K4 x) hp,List.map_cons]
   exact ih)
theorem b4u {n m:Nat} {p:Prg} (h:SzP n m p) (hn:n ≤ 1000000) (hm:m ≤ 1000000):d1v T.rf p = some (D9 p):=d7h (by
 have h0:=d8D p.2.1 p.2.2 hn hm p.1.length (Nat.le_trans h.c hn) p.1 [] rfl (fun y hy => h.u y hy)
 simp only [List.nil_append,List.length_nil] at h0
 rw [show ((0:Nat):Int) = (0:Int) from rfl] at h0
 simp only [c4M,c3D (Nat.le_trans h.c hn),bind_some,h0,D9])
end Go.Proofs.YtelpjfihadaomaaGreatDoor.R
