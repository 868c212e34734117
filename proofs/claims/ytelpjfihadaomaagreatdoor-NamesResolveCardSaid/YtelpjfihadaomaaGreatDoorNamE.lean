import Derived.Test.YtelpjfihadaomaaGreatDoorNamF
open Option (bind_some)
open List (length_nil)
namespace Go.Proofs.YtelpjfihadaomaaGreatDoor.R
open Go Go.Bm Go.Proofs
set_option linter.unusedVariables false
set_option linter.unusedSimpArgs false
set_option maxRecDepth 4000
def ghP:List Itm → List Pm
 | [] => []
 | x :: r => if x.1 = 3 then (x.2.1,x.2.2.1) :: ghP r else ghP r
theorem a2c:∀ l:List Itm,nmP (ghP l) = gn l
 | [] => rfl
 | x :: r => by
   have ih:=a2c r
   simp only [ghP,gn]
   split
   · simp only [nmP,List.map_cons] at ih ⊢; rw [ih]
   · exact ih
theorem a1b:∀ l:List Itm,(ghP l).length ≤ l.length
 | [] => Nat.le_refl _
 | x :: r => by have:=a1b r; simp only [ghP]; split <;> simp <;> omega
theorem a8L (x:Pm) (l:List Pm):nmP (x :: l) = x.1 :: nmP l:=rfl
theorem bs {a b:Str}:(a == b) = decide (a = b):=by
 by_cases h:a = b
 · rw [dt h]; exact beq_iff_eq.2 h
 · rw [df h]; exact beq_eq_false_iff_ne.2 h
theorem b1i (n:Str):∀ (suf pre:List Pm),(pre ++ suf).length ≤ 1000000 → c4a T.rb (pre ++ suf) n (pre.length:Nat) = some (if n ∈ nmP suf then .inl true else .inr ())
 | [],pre,h => c9V (by simp only [b9u,j9,cond_false]; rfl)
 | x :: suf,pre,h => c9V (by
   have hp:pre.length < 4611686018427387904:=by simp at h; omega
   have ih:=b1i n suf (pre ++ [x]) (by simpa using h)
   simp only [List.append_assoc,List.singleton_append] at ih
   simp only [b9u,g8,a5,a6,cond_true,bind_some,e9 pre x hp,ih,bs,a8L,List.mem_cons]
   by_cases e:x.1 = n
   · simp only [e,decide_true,cond_true,true_or,if_true]
   · have e':¬ n = x.1:=fun h => e h.symm
     simp only [df e,cond_false,e',false_or])
theorem V3 {l:List Pm} (h:l.length ≤ 1000000) (n:Str):a5q T.rf l n = some (decide (n ∈ nmP l)):=d8d (by
 have:=b1i n l [] (by simpa using h)
 simp only [List.nil_append,length_nil] at this
 rw [show ((0:Nat):Int) = (0:Int) from rfl] at this
 simp only [c5w,this,bind_some]
 by_cases g:n ∈ nmP l
 · rw [if_pos g,dt g]
 · rw [if_neg g,df g])
theorem a5O:∀ (suf pre:List Itm) (d:List Pm),(pre ++ suf).length ≤ 1000000 → d.length ≤ pre.length → c0I T.rb (pre ++ suf) d (pre.length:Nat) = some (pre ++ suf,d ++ ghP suf)
 | [],pre,d,h,hd => c9W (by simp only [b9v,j9,cond_false]; simp [ghP])
 | x :: suf,pre,d,h,hd => c9W (by
   have hp:pre.length ≤ 1000000:=by simp at h; omega
   simp only [b9v,g8,a5,a6,cond_true,bind_some,e9 pre x (by omega),ghP]
   by_cases h3:x.1 = 3
   · have ih:=a5O suf (pre ++ [x]) (d ++ [(x.2.1,x.2.2.1)]) (by simpa using h) (by simp; omega)
     simp only [List.append_assoc,List.singleton_append] at ih
     simp only [bt h3,cond_true,j5 (show d.length + 1 ≤ 274877906944 by omega),Bool.and_true,ih,if_pos h3]
   · have ih:=a5O suf (pre ++ [x]) d (by simpa using h) (by simp; omega)
     simp only [List.append_assoc,List.singleton_append] at ih
     simp only [bf h3,cond_false,ih,if_neg h3])
theorem b2j {l:List Itm} (h:l.length ≤ 1000000):b7v T.rf l = some (l,ghP l):=d8g (by
 have:=a5O l [] [] (by simpa using h) (by simp)
 simp only [List.nil_append,length_nil] at this
 rw [show ((0:Nat):Int) = (0:Int) from rfl] at this
 simp only [c5y,this,bind_some])
theorem a5P:∀ (suf pre:List Itm) (d:List Pm),(pre ++ suf).length ≤ 1000000 → d.length ≤ pre.length → c0J T.rb d (pre ++ suf) (pre.length:Nat) = some (d ++ ghP suf)
 | [],pre,d,h,hd => c9Z (by simp only [b9y,j9,cond_false]; simp [ghP])
 | x :: suf,pre,d,h,hd => c9Z (by
   have hp:pre.length ≤ 1000000:=by simp at h; omega
   simp only [b9y,g8,a5,a6,cond_true,bind_some,e9 pre x (by omega),ghP]
   by_cases h3:x.1 = 3
   · have ih:=a5P suf (pre ++ [x]) (d ++ [(x.2.1,x.2.2.1)]) (by simpa using h) (by simp; omega)
     simp only [List.append_assoc,List.singleton_append] at ih
     simp only [bt h3,cond_true,j5 (show d.length + 1 ≤ 274877906944 by omega),Bool.and_true,ih,if_pos h3]
   · have ih:=a5P suf (pre ++ [x]) d (by simpa using h) (by simp; omega)
     simp only [List.append_assoc,List.singleton_append] at ih
     simp only [bf h3,cond_false,ih,if_neg h3])
theorem b2k {l:List Itm} (h:l.length ≤ 1000000):c0a T.rf l = some (ghP l):=d8j (by
 have:=a5P l [] [] (by simpa using h) (by simp)
 simp only [List.nil_append,length_nil] at this
 rw [show ((0:Nat):Int) = (0:Int) from rfl] at this
 simp only [c5A,this,bind_some])
theorem a6M {S G:List Pm} (hS:S.length ≤ 1000000) (hG:G.length ≤ 1000000):∀ (suf pre:List Nd),(pre ++ suf).length ≤ 1000000 → b7U T.rb (pre ++ suf) S G (pre.length:Nat) = some (if known (nmP S) (nmP G) suf = 0 then .inr () else .inl (known (nmP S) (nmP G) suf))
 | [],pre,h => c9X (by simp only [b9w,j9,cond_false]; rfl)
 | x :: suf,pre,h => c9X (by
   have hp:pre.length < 4611686018427387904:=by simp at h; omega
   have ih:=a6M hS hG suf (pre ++ [x]) (by simpa using h)
   simp only [List.append_assoc,List.singleton_append] at ih
   simp only [b9w,g8,a5,a6,cond_true,bind_some,e9 pre x hp,V3 hS,V3 hG,ih]
   by_cases h3:x.1 = 3
   · have h27:(x.1 == 27) = false:=bf (by omega)
     rw [bt h3,h27]
     simp only [cond_true,cond_false]
     by_cases g:x.2.2.2.2.2 ∈ nmP S
     · have hk:known (nmP S) (nmP G) (x :: suf) = known (nmP S) (nmP G) suf:=by rw [known,if_neg (fun k => k.2.1 g),if_neg (by omega)]
       rw [dt g,hk]; rfl
     · rw [df g]
       by_cases q:x.2.2.2.2.2 ∈ nmP G
       · have hk:known (nmP S) (nmP G) (x :: suf) = known (nmP S) (nmP G) suf:=by rw [known,if_neg (fun k => k.2.2 q),if_neg (by omega)]
         rw [dt q,hk]; rfl
       · have hk:known (nmP S) (nmP G) (x :: suf) = 8:=by rw [known,if_pos ⟨h3,g,q⟩]
         rw [df q,hk]; rfl
   · rw [bf h3]
     simp only [cond_false]
     by_cases h27:x.1 = 27
     · have hk:known (nmP S) (nmP G) (x :: suf) = 14:=by rw [known,if_neg (fun k => h3 k.1),if_pos h27]
       rw [bt h27,hk]; rfl
     · have hk:known (nmP S) (nmP G) (x :: suf) = known (nmP S) (nmP G) suf:=by rw [known,if_neg (fun k => h3 k.1),if_neg h27]
       rw [bf h27,hk]; rfl)
theorem a5Q {S G:List Pm} (hS:S.length ≤ 1000000) (hG:G.length ≤ 1000000) {e:List Nd} (h:e.length ≤ 1000000):b9Z T.rf e S G = some (known (nmP S) (nmP G) e):=d8h (by
 have:=a6M hS hG e [] (by simpa using h)
 simp only [List.nil_append,length_nil] at this
 rw [show ((0:Nat):Int) = (0:Int) from rfl] at this
 simp only [c5z,this,bind_some]
 by_cases g:known (nmP S) (nmP G) e = 0
 · rw [if_pos g,g]
 · rw [if_neg g])
theorem a6N {its:List Itm} (hi:its.length ≤ 1000) {S:List Pm} (hS:S.length ≤ 1000000) {x:Itm} (hl:x.2.2.2.2.2.length ≤ 1000):∀ (suf pre:List (List Nd)) (c:Int),x.2.2.2.2.2 = pre ++ suf → (∀ y ∈ suf,y.length ≤ 1000000) →
  b7V T.rb its x S c (pre.length:Nat) = some (its,x,if c = 0 then Q3 (nmP S) (gn its) suf else c)
 | [],pre,c,h,hs => c9Y (by
   simp only [b9x,h,j9,cond_false,Q3]
   by_cases hc:c = 0
   · rw [if_pos hc,hc]
   · rw [if_neg hc])
 | y :: suf,pre,c,h,hs => c9Y (by
   have hp:pre.length < 4611686018427387904:=by have:=congrArg List.length h; simp at this; omega
   have hg:=a1b its
   simp only [b9x,h,g8,cond_true,a5,a6,bind_some,e9 pre y hp,b2j (show its.length ≤ 1000000 by omega),a5Q hS (show (ghP its).length ≤ 1000000 by omega) (hs y List.mem_cons_self),a2c]
   by_cases hc:c = 0
   · rw [bt hc,cond_true,if_pos hc,Q3]
     have ih:=a6N hi hS hl suf (pre ++ [y]) (known (nmP S) (gn its) y) (by simpa using h) (fun z hz => hs z (List.mem_cons_of_mem _ hz))
     rw [ih]
   · rw [bf hc,cond_false,if_neg hc])
theorem b8w {its:List Itm} (hi:its.length ≤ 1000) {S:List Pm} (hS:S.length ≤ 1000000) {x:Itm} (h1:x.2.2.2.1.length ≤ 1000000) (h2:x.2.2.2.2.1.length ≤ 1000000) (hl:x.2.2.2.2.2.length ≤ 1000) (ha:∀ y ∈ x.2.2.2.2.2,y.length ≤ 1000000) :
  d1M T.rf its x S = some (its,S1 (nmP S) (gn its) x):=d8f (by
 have hg:=a1b its
 have hn:∀ c,b7V T.rb its x S c 0 = some (its,x,if c = 0 then Q3 (nmP S) (gn its) x.2.2.2.2.2 else c):=fun c => a6N hi hS hl x.2.2.2.2.2 [] c rfl ha
 simp only [c5x,b2j (show its.length ≤ 1000000 by omega),a5Q hS (show (ghP its).length ≤ 1000000 by omega) h1,a5Q hS (show (ghP its).length ≤ 1000000 by omega) h2,a2c,bind_some,hn,S1]
 by_cases g:known (nmP S) (gn its) x.2.2.2.1 = 0
 · rw [bt g,cond_true,if_pos g]
 · rw [bf g,cond_false,if_neg g,if_neg g])
theorem b6C {e:List Nd} {names:List Str} {by_:List (List Nd)} (he:e.length ≤ 1000000) (hn:names.length ≤ 1000) (hb:by_.length ≤ 1000) (hby:∀ x ∈ by_,x.length ≤ 200) :
  c3v T.rf e names by_ = some (if (H7 e names by_).2 = true then ((H7 e names by_).1,0) else ([],7)):=d8l (by
 simp only [c5B,c0Q]
 by_cases h0:e = []
 · subst h0; rfl
 · have:¬ e.length = 0:=fun g => h0 (List.length_eq_zero_iff.1 g)
   rw [df this,cond_false,b8q he hn hb (fun x hx => by have:=hby x hx; omega),bind_some,a0O (b3L hby),bind_some,H7,if_neg h0]
   cases s8 (put e names by_) <;> rfl)
theorem c2n {nm:Str} (hnm:nm.length ≤ 1000) {names:List Str} {by_:List (List Nd)} (hn:names.length ≤ 1000) (hb:by_.length ≤ 1000) (hby:∀ x ∈ by_,x.length ≤ 200) {y:Itm} (h0:y.2.1.length ≤ 1000) (h1:y.2.2.2.1.length ≤ 1000000) (h2:y.2.2.2.2.1.length ≤ 1000000) :
  ∃ z,c0b T.rf y nm names by_ = some z ∧ Sp (fun c => z.2 = c ∧ c ≠ 0) (fun y' => z = (y',0)) (S5 nm names by_ y):=by
 have hbody:∀ z,(c2i T.rf T.rb y nm names by_ = some z) → c0b T.rf y nm names by_ = some z:=fun z hz => d8k hz
 simp only [c2i,b6C h1 hn hb hby,b6C h2 hn hb hby,bind_some,bs,j5 (show nm.length + 1 ≤ 274877906944 by omega),j5 (show (nm ++ ([95]:Str)).length + y.2.1.length ≤ 274877906944 by simp; omega),cond_true,G1] at hbody
 unfold S5
 by_cases e0:y.2.1 = []
 · simp only [dt e0,Bool.not_true,cond_false] at hbody
   rw [if_neg (show ¬ (y.2.1 ≠ [] ∧ m6 ((nm ++ [95]) ++ y.2.1) = false) from fun g => g.1 e0),if_pos e0]
   rcases Bool.eq_false_or_eq_true (H7 y.2.2.2.1 names by_).2 with a | a <;> rcases Bool.eq_false_or_eq_true (H7 y.2.2.2.2.1 names by_).2 with b | b <;> simp only [a,b,Bool.false_eq_true,if_false,if_true,Bool.and_true,Bool.and_false] at hbody ⊢
   · rw [e0] at hbody; exact ⟨_,hbody _ rfl,rfl⟩
   · exact ⟨_,hbody _ rfl,rfl,by decide⟩
   · exact ⟨_,hbody _ rfl,rfl,by decide⟩
   · exact ⟨_,hbody _ rfl,rfl,by decide⟩
 · simp only [df e0,Bool.not_false,cond_true] at hbody
   rcases Bool.eq_false_or_eq_true (m6 ((nm ++ [95]) ++ y.2.1)) with q | q
   · simp only [q,Bool.not_true,cond_false] at hbody
     rw [if_neg (show ¬ (y.2.1 ≠ [] ∧ m6 ((nm ++ [95]) ++ y.2.1) = false) from fun g => by rw [q] at g; cases g.2),if_neg e0]
     rcases Bool.eq_false_or_eq_true (H7 y.2.2.2.1 names by_).2 with a | a <;> rcases Bool.eq_false_or_eq_true (H7 y.2.2.2.2.1 names by_).2 with b | b <;> simp only [a,b,Bool.false_eq_true,if_false,if_true,Bool.and_true,Bool.and_false] at hbody ⊢
     · exact ⟨_,hbody _ rfl,rfl⟩
     · exact ⟨_,hbody _ rfl,rfl,by decide⟩
     · exact ⟨_,hbody _ rfl,rfl,by decide⟩
     · exact ⟨_,hbody _ rfl,rfl,by decide⟩
   · simp only [q,Bool.not_false,cond_true] at hbody
     rw [if_pos (show (y.2.1 ≠ [] ∧ m6 ((nm ++ [95]) ++ y.2.1) = false) from ⟨e0,q⟩)]
     exact ⟨_,hbody _ rfl,rfl,by decide⟩
theorem b6y {its:List Itm} (hi:its.length ≤ 1000) {S:List Pm} (hS:S.length ≤ 1000000) (x:Itm) :
  c3w T.rf its S x = some (match H6 (nmP S) its x with
   | .inl c => .inl (its,c)
   | .inr l => .inr (l,0)):=d8o (by
 have hg:=a1b its
 have hd:decide (((its.length:Nat):Int) ≥ 200) = !(decide (its.length < 200)):=by
  by_cases g:its.length < 200
  · rw [dt g,df (by omega)]; rfl
  · rw [df g,dt (by omega)]; rfl
 simp only [c5E,V3 hS,b2j (show its.length ≤ 1000000 by omega),V3 (show (ghP its).length ≤ 1000000 by omega),a2c,bind_some,hd,j5 (show its.length + 1 ≤ 274877906944 by omega),Bool.and_true,cond_true]
 by_cases h3:x.1 = 3
 · simp only [bt h3,cond_true]
   by_cases a:x.2.1 ∈ nmP S
   · rw [show H6 (nmP S) its x = .inl 9 from if_pos ⟨h3,.inl a⟩]; simp only [dt a,cond_true]
   · by_cases b:x.2.1 ∈ gn its
     · rw [show H6 (nmP S) its x = .inl 9 from if_pos ⟨h3,.inr b⟩]; simp only [df a,dt b,cond_true,cond_false]
     · have hn:¬ (x.1 = 3 ∧ (x.2.1 ∈ nmP S ∨ x.2.1 ∈ gn its)):=fun g => by rcases g.2 with g | g; exact a g; exact b g
       by_cases g:its.length < 200
       · rw [show H6 (nmP S) its x = .inr (its ++ [x]) from by rw [H6,if_neg hn,if_pos g]]; simp only [df a,df b,dt g,Bool.not_true,cond_false]
       · rw [show H6 (nmP S) its x = .inl 7 from by rw [H6,if_neg hn,if_neg g]]; simp only [df a,df b,df g,Bool.not_false,cond_true,cond_false]
 · simp only [bf h3,cond_false]
   have hn:¬ (x.1 = 3 ∧ (x.2.1 ∈ nmP S ∨ x.2.1 ∈ gn its)):=fun g => h3 g.1
   by_cases g:its.length < 200
   · rw [show H6 (nmP S) its x = .inr (its ++ [x]) from by rw [H6,if_neg hn,if_pos g]]; simp only [dt g,Bool.not_true,cond_false]
   · rw [show H6 (nmP S) its x = .inl 7 from by rw [H6,if_neg hn,if_neg g]]; simp only [df g,Bool.not_false,cond_true])
theorem d0H (k:Unt) (x:Itm) (hl:k.2.2.1.length ≤ 1000):∀ (suf pre:List Pm) (suf' pre':List (List Nd)) (d:List Str) (b:List (List Nd)),k.2.2.1 = pre ++ suf → x.2.2.2.2.2 = pre' ++ suf' → pre.length = pre'.length → suf.length = suf'.length → d.length ≤ pre.length → b.length ≤ pre.length →
  c4e T.rb k x d b (pre.length:Nat) = some (k,x,d ++ suf.map (·.1),b ++ suf')
 | [],pre,[],pre',d,b,h,h',e,e',hd,hb => d0e (by
   have hlt:decide (((pre.length:Nat):Int) < ((k.2.2.1.length:Nat):Int)) = false:=by rw [h]; exact j9 pre
   simp only [b9D,hlt,cond_false]; simp)
 | [],pre,_ :: _,pre',d,b,h,h',e,e',hd,hb => by simp at e'
 | _ :: _,pre,[],pre',d,b,h,h',e,e',hd,hb => by simp at e'
 | p :: suf,pre,y :: suf',pre',d,b,h,h',e,e',hd,hb => d0e (by
   have hp:pre.length ≤ 1000:=by have:=congrArg List.length h; simp at this; omega
   have ih:=d0H k x hl suf (pre ++ [p]) suf' (pre' ++ [y]) (d ++ [p.1]) (b ++ [y]) (by simpa using h) (by simpa using h') (by simp; omega) (by simpa using e') (by simp; omega) (by simp; omega)
   have q1:inb ((pre.length:Nat):Int) (pre' ++ y :: suf').length = true:=by rw [e]; exact a5 pre' y suf'
   have q2:nth (pre' ++ y :: suf') ((pre.length:Nat):Int).toNat = some y:=by rw [e]; exact a6 pre' y suf'
   simp only [b9D,h,h',g8,a5,a6,q1,q2,cond_true,bind_some,j5 (show d.length + 1 ≤ 274877906944 by omega),j5 (show b.length + 1 ≤ 274877906944 by omega),Bool.and_true,e9 pre p (by omega),ih,List.map_cons,List.append_assoc,List.singleton_append])
theorem d0I (x:Itm) (hx:x.2.1.length ≤ 1000):∀ (suf pre:List Pm) (d:List Str) (b:List (List Nd)),(pre ++ suf).length ≤ 1000 → (∀ g ∈ suf,g.1.length ≤ 1000) → d.length ≤ 1000 + pre.length → b.length ≤ 1000 + pre.length →
  c4f T.rb x d b (pre ++ suf) (pre.length:Nat) = some (x,pre ++ suf,d ++ nmP suf,b ++ (nmP suf).map fun g => join 3 0 ((x.2.1 ++ [95]) ++ g) [])
 | [],pre,d,b,h,hs,hd,hb => d0f (by simp only [b9E,j9,cond_false]; simp [nmP])
 | g :: suf,pre,d,b,h,hs,hd,hb => d0f (by
   have hp:pre.length ≤ 1000:=by simp at h; omega
   have ih:=d0I x hx suf (pre ++ [g]) (d ++ [g.1]) (b ++ [join 3 0 ((x.2.1 ++ [95]) ++ g.1) []]) (by simpa using h) (fun z hz => hs z (List.mem_cons_of_mem _ hz)) (by simp; omega) (by simp; omega)
   have hj:c47 T.rf 3 0 ((x.2.1 ++ [95]) ++ g.1) [] = some (join 3 0 ((x.2.1 ++ [95]) ++ g.1) []):=b5q (by simp [total]) (by simp)
   simp only [List.append_assoc,List.singleton_append] at ih hj
   have hy:=hs g List.mem_cons_self
   simp only [b9E,g8,a5,a6,cond_true,bind_some,j5 (show d.length + 1 ≤ 274877906944 by omega),j5 (show b.length + 1 ≤ 274877906944 by omega),j5 (show x.2.1.length + 1 ≤ 274877906944 by omega),j5 (show (x.2.1 ++ [95]).length + g.1.length ≤ 274877906944 by simp; omega),Bool.and_true,e9 pre g (by omega),List.append_assoc,List.singleton_append,hj,ih,nmP,List.map_cons])
theorem d0J {k:Unt} {x:Itm} (hx:x.2.1.length ≤ 1000) {names:List Str} {by_:List (List Nd)} (hn:names.length ≤ 1000) (hb:by_.length ≤ 1000) (hby:∀ x ∈ by_,x.length ≤ 200) {S:List Pm} (hS:S.length ≤ 1000000) (hkl:k.2.2.2.2.2.2.2.length ≤ 1000) :
  ∀ (suf pre its:List Itm),k.2.2.2.2.2.2.2 = pre ++ suf → (∀ y ∈ suf,y.2.1.length ≤ 1000 ∧ y.2.2.2.1.length ≤ 1000000 ∧ y.2.2.2.2.1.length ≤ 1000000) → its.length ≤ 1000 →
  ∃ z,b1L T.rb its k x S names by_ (pre.length:Nat) = some z ∧ Sp (fun c => ∃ l,z = .inl (k,x,l,c)) (fun l => z = .inr (k,x,l)) (m7 (nmP S) x.2.1 names by_ suf its)
 | [],pre,its,h,hs,hi => ⟨_,d0g (by simp only [b4B,h,j9,cond_false]),rfl⟩
 | y :: suf,pre,its,h,hs,hi => by
   have hp:pre.length ≤ 1000:=by have:=congrArg List.length h; simp at this; omega
   obtain ⟨hy1,hy2,hy3⟩:=hs y List.mem_cons_self
   have hbody:∀ z,(b4B T.rf T.rb its k x S names by_ (pre.length:Nat) = some z) → b1L T.rb its k x S names by_ (pre.length:Nat) = some z:=fun z hz => d0g hz
   obtain ⟨zi,g1,g2⟩:=c2n hx hn hb hby hy1 hy2 hy3
   have ht:∀ (y':Itm) (c:Int),c4g T.rb its y' S c = some (if c = 0 then (match H6 (nmP S) its y' with
     | .inl e => .inl (its,y',e)
     | .inr l => .inr (.inr (y',l))) else .inl (its,y',c)):=fun y' c => d6S (by
    simp only [c3c,b6y hi hS,bind_some]
    by_cases hc:c = 0
    · rw [nbt hc,cond_false,if_pos hc]
      cases ha:H6 (nmP S) its y' with
      | inl e => simp only [nbf (a4d ha),cond_true]
      | inr l => rfl
    · rw [nbf hc,cond_true,if_neg hc])
   simp only [b4B,h,g8,a5,a6,cond_true,bind_some,e9 pre y (by omega),g1,ht] at hbody
   revert g2
   cases hI:S5 x.2.1 names by_ y with
   | inl c =>
     rintro ⟨e,hc⟩
     simp only [e,if_neg hc,bind_some] at hbody
     rw [show m7 (nmP S) x.2.1 names by_ (y :: suf) its = .inl c from by simp only [m7,hI]]
     exact ⟨_,hbody _ rfl,_,rfl⟩
   | inr y' =>
     rintro rfl
     simp only [if_true] at hbody
     cases ha:H6 (nmP S) its y' with
     | inl c =>
       simp only [ha,bind_some] at hbody
       rw [show m7 (nmP S) x.2.1 names by_ (y :: suf) its = .inl c from by simp only [m7,hI,ha]]
       exact ⟨_,hbody _ rfl,_,rfl⟩
     | inr l =>
       simp only [ha,bind_some] at hbody
       rw [show m7 (nmP S) x.2.1 names by_ (y :: suf) its = m7 (nmP S) x.2.1 names by_ suf l from by simp only [m7,hI,ha]]
       obtain ⟨z,h1,h2⟩:=d0J hx hn hb hby hS hkl suf (pre ++ [y]) l (by simpa using h) (fun z hz => hs z (List.mem_cons_of_mem _ hz)) (by have:=(G2 ha).1; omega)
       exact ⟨z,hbody z h1,h2⟩
def c0v (S:List Str) (out:List Itm) (k:Unt) (x:Itm):Int ⊕ List Itm:=if k.2.2.1.length = x.2.2.2.2.2.length then m7 S x.2.1 (K1 k) (K0 k x) k.2.2.2.2.2.2.2 out else .inl 14
theorem b4O:∀ (l:List Itm) (s:Str),s ∈ gn l → ∃ y ∈ l,y.2.1 = s
 | [],s,h => by simp [gn] at h
 | x :: l,s,h => by
   simp only [gn] at h
   split at h
   · rcases List.mem_cons.1 h with h | h
     · exact ⟨x,List.mem_cons_self,h.symm⟩
     · obtain ⟨y,hy,e⟩:=b4O l s h; exact ⟨y,List.mem_cons_of_mem _ hy,e⟩
   · obtain ⟨y,hy,e⟩:=b4O l s h; exact ⟨y,List.mem_cons_of_mem _ hy,e⟩
theorem b2l {its:List Itm} (hi:its.length ≤ 1000) {k:Unt} (ho:UOk k) {x:Itm} (hx:x.2.1.length ≤ 1000) (ha:∀ y ∈ x.2.2.2.2.2,y.length ≤ 200) {S:List Pm} (hS:S.length ≤ 1000000) :
  ∃ z,c3u T.rf its k x S = some z ∧ Sp (fun c => ∃ l,z = .inl (l,c) ∨ z = .inr (l,c)) (fun l => z = .inr (l,0)) (c0v (nmP S) its k x):=by
 have hbody:∀ z,(b8n T.rf T.rb its k x S = some z) → c3u T.rf its k x S = some z:=fun z hz => d8i hz
 have hil:=ho.i
 have hxl:=ho.x
 have hg:=b4N k.2.2.2.2.2.2.2
 have hg2:=a1b k.2.2.2.2.2.2.2
 unfold c0v
 by_cases hl:k.2.2.1.length = x.2.2.2.2.2.length
 case neg =>
  simp only [b8n,nbf (show ((k.2.2.1.length:Nat):Int) ≠ ((x.2.2.2.2.2.length:Nat):Int) by omega),cond_true] at hbody
  rw [if_neg hl]
  exact ⟨_,hbody _ rfl,_,.inl rfl⟩
 rw [if_pos hl]
 have h0:=d0H k x (by omega) k.2.2.1 [] x.2.2.2.2.2 [] [] [] rfl rfl rfl hl (by simp) (by simp)
 have h2:=d0I x hx (ghP k.2.2.2.2.2.2.2) [] (k.2.2.1.map (·.1)) x.2.2.2.2.2 (by simp; omega) (fun g hgm => by
  have:g.1 ∈ gn k.2.2.2.2.2.2.2:=by rw [← a2c]; exact List.mem_map_of_mem hgm
  obtain ⟨y,hy,e⟩:=b4O _ _ this
  rw [← e]; exact (ho.nm y hy).1) (by simp; omega) (by simp; omega)
 rw [a2c] at h2
 simp only [List.nil_append,length_nil] at h0 h2
 rw [show ((0:Nat):Int) = (0:Int) from rfl] at h0 h2
 obtain ⟨z,h3,h4⟩:=d0J (k:=k) hx (names:=K1 k) (by_:=K0 k x) (by simp [K1]; omega) (by simp [K0]; omega) (b9R ha) hS (by omega) k.2.2.2.2.2.2.2 [] its rfl (fun y hy => ⟨(ho.nm y hy).1,by have:=(ho.nm y hy).2.1; omega,by have:=(ho.nm y hy).2.2; omega⟩) hi
 rw [length_nil,show ((0:Nat):Int) = (0:Int) from rfl] at h3
 have h3':b1L T.rb its k x S (k.2.2.1.map (·.1) ++ gn k.2.2.2.2.2.2.2) (x.2.2.2.2.2 ++ (gn k.2.2.2.2.2.2.2).map fun g => join 3 0 ((x.2.1 ++ [95]) ++ g) []) 0 = some z:=h3
 simp only [b8n,nbt (show ((k.2.2.1.length:Nat):Int) = ((x.2.2.2.2.2.length:Nat):Int) by omega),cond_false,h0,bind_some,b2k (show k.2.2.2.2.2.2.2.length ≤ 1000000 by omega),h2,h3'] at hbody
 revert h4
 cases m7 (nmP S) x.2.1 (K1 k) (K0 k x) k.2.2.2.2.2.2.2 its with
 | inl c =>
   rintro ⟨l,rfl⟩
   exact ⟨_,hbody _ rfl,_,.inr rfl⟩
 | inr l =>
   rintro rfl
   exact ⟨_,hbody _ rfl,rfl⟩
end Go.Proofs.YtelpjfihadaomaaGreatDoor.R
