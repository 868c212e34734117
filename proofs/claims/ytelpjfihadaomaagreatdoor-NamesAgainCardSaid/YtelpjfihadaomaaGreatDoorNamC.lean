import Derived.Test.YtelpjfihadaomaaGreatDoorNamB
import Derived.Test.YtelpjfihadaomaaGreatDoorTreeN
open Option (bind_some)
namespace Go.Proofs.YtelpjfihadaomaaGreatDoor.R
open Go Go.Bm Go.Proofs
set_option linter.unusedVariables false
set_option linter.unusedSimpArgs false
set_option maxRecDepth 4000
def Q3 (S G:List Str):List (List Nd) → Int
 | [] => 0
 | e :: r => if known S G e = 0 then Q3 S G r else known S G e
def S1 (S G:List Str) (x:Itm):Int:=if known S G x.2.2.2.1 = 0 then (if known S G x.2.2.2.2.1 = 0 then Q3 S G x.2.2.2.2.2 else known S G x.2.2.2.2.1) else known S G x.2.2.2.1
def s5 (U:Str → Option Unt) (S:List Str):List Itm → List Itm → Int ⊕ List Itm
 | [],out => .inr out
 | x :: r,out => if S1 S (gn out) x = 0 then (match (if x.1 = 5 then B4 U S out x else H6 S out x) with
   | .inl c => .inl c
   | .inr l => s5 U S r l) else .inl (S1 S (gn out) x)
theorem a3t {S:List Str} {nm:Str} {names:List Str} {by_:List (List Nd)}:∀ {suf out l:List Itm},m7 S nm names by_ suf out = .inr l → out.length ≤ 200 → l.length ≤ 200
 | [],out,l,h,ho => by cases h; exact ho
 | y :: suf,out,l,h,ho => by
   simp only [m7] at h
   split at h
   · cases h
   split at h
   · cases h
   · rename_i l' ha
     exact a3t h (G2 ha).1
theorem Z9 {U:Str → Option Unt} {S:List Str} {out l:List Itm} {x:Itm} (h:B4 U S out x = .inr l) (ho:out.length ≤ 200):l.length ≤ 200:=by
 unfold B4 at h
 split at h
 · cases h
 split at h
 · split at h
   · exact a3t h ho
   · cases h
 · cases h
theorem c5V (mu:Mu) (S G:List Str) (its:List Itm) (N:Nat) (hN:N ≤ 1000):∀ (suf pre:List (List Nd)),N = (pre ++ suf).length → (∀ y ∈ suf,y.length ≤ 1000000) →
  c3S T.rb mu (SM S) (SM G) its (pre ++ suf) (N:Nat) (pre.length:Nat) = some (if Q3 S G suf = 0 then .inr (mu,SM S,SM G,its) else .inl (mu,SM S,SM G,its,Q3 S G suf))
 | [],pre,h,hs => c9B (by simp only [b9e,J1 pre h,cond_false]; rfl)
 | y :: suf,pre,h,hs => c9B (by
   have hp:pre.length ≤ 1000:=by simp at h; omega
   have ih:=c5V mu S G its N hN suf (pre ++ [y]) (by simpa using h) (fun z hz => hs z (List.mem_cons_of_mem _ hz))
   simp only [List.append_assoc,List.singleton_append] at ih
   simp only [b9e,J2 pre y suf h,a5,a6,cond_true,bind_some,e9 pre y (by omega),a5C mu S G its (hs y List.mem_cons_self),Q3]
   by_cases hk:known S G y = 0
   · simp only [if_pos hk,ih]
   · simp only [if_neg hk])
theorem c0x {us:List Unt} (hus:∀ k ∈ us,UOk k) (S:List Str) (N:Nat) (hN:N ≤ 1000):∀ (suf pre:List Itm) (its:List Itm),N = (pre ++ suf).length → its.length ≤ 200 →
  (∀ x ∈ suf,x.2.1.length ≤ 1000 ∧ x.2.2.2.1.length ≤ 1000000 ∧ x.2.2.2.2.1.length ≤ 1000000 ∧ x.2.2.2.2.2.length ≤ 200 ∧ ∀ y ∈ x.2.2.2.2.2,y.length ≤ 200) →
  ∃ z,b4U T.rb (UM us) (SM S) (SM (gn its)) its (pre ++ suf) (N:Nat) (pre.length:Nat) = some z ∧ Sp (fun c => ∃ u1 u2 u3 u4,z = .inl (u1,u2,u3,u4,c)) (fun l => z = .inr (UM us,SM S,SM (gn l),l)) (s5 (fU us) S suf its)
 | [],pre,its,h,hi,hs => ⟨_,c9A (by simp only [b7c,J1 pre h,cond_false]),rfl⟩
 | x :: suf,pre,its,h,hi,hs => by
   have hp:pre.length ≤ 1000:=by simp at h; omega
   obtain ⟨x1,x2,x3,x4,x5⟩:=hs x List.mem_cons_self
   have hbody:∀ z,(b7c T.rf T.rb (UM us) (SM S) (SM (gn its)) its (pre ++ x :: suf) (N:Nat) (pre.length:Nat) = some z) → b4U T.rb (UM us) (SM S) (SM (gn its)) its (pre ++ x :: suf) (N:Nat) (pre.length:Nat) = some z:=fun z hz => c9A hz
   have ha:=c5V (UM us) S (gn its) its x.2.2.2.2.2.length (by omega) x.2.2.2.2.2 [] rfl (fun y hy => by have:=x5 y hy; omega)
   simp only [List.nil_append,List.length_nil] at ha
   rw [show ((0:Nat):Int) = (0:Int) from rfl] at ha
   simp only [b7c,J2 pre x suf h,a5,a6,cond_true,bind_some,e9 pre x (by omega),a5C _ S (gn its) its x2] at hbody
   simp only [s5,S1]
   by_cases k1:known S (gn its) x.2.2.2.1 = 0
   case neg =>
    simp only [if_neg k1] at hbody ⊢
    exact ⟨_,hbody _ rfl,_,_,_,_,rfl⟩
   simp only [if_pos k1,a5C _ S (gn its) its x3,bind_some] at hbody ⊢
   by_cases k2:known S (gn its) x.2.2.2.2.1 = 0
   case neg =>
    simp only [if_neg k2] at hbody ⊢
    exact ⟨_,hbody _ rfl,_,_,_,_,rfl⟩
   simp only [if_pos k2,ha,bind_some] at hbody ⊢
   by_cases k3:Q3 S (gn its) x.2.2.2.2.2 = 0
   case neg =>
    simp only [if_neg k3] at hbody ⊢
    exact ⟨_,hbody _ rfl,_,_,_,_,rfl⟩
   simp only [if_pos k3] at hbody ⊢
   have next:∀ l:List Itm,l.length ≤ 200 → ∃ z,b4U T.rb (UM us) (SM S) (SM (gn l)) l (pre ++ x :: suf) (N:Nat) (((pre ++ [x]).length:Nat):Int) = some z ∧ Sp (fun c => ∃ u1 u2 u3 u4,z = .inl (u1,u2,u3,u4,c)) (fun l => z = .inr (UM us,SM S,SM (gn l),l)) (s5 (fU us) S suf l):=fun l hl => by
    obtain ⟨z,h1,h2⟩:=c0x hus S N hN suf (pre ++ [x]) l (by simpa using h) hl (fun y hy => hs y (List.mem_cons_of_mem _ hy))
    simp only [List.append_assoc,List.singleton_append] at h1
    exact ⟨z,h1,h2⟩
   by_cases h5:x.1 = 5
   · obtain ⟨z,g1,g2⟩:=b4P hus S its (by omega) x1 x4 x5
     simp only [bt h5,cond_true,g1,bind_some] at hbody
     simp only [if_pos h5]
     revert g2
     cases hI:B4 (fU us) S its x with
     | inl c =>
       rintro (⟨u1,u2,u3,u4,rfl⟩ | ⟨u1,u2,u3,u4,rfl⟩)
       · exact ⟨_,hbody _ rfl,_,_,_,_,rfl⟩
       · exact ⟨_,hbody _ rfl,_,_,_,_,rfl⟩
     | inr l =>
       rintro rfl
       obtain ⟨z,h1,h2⟩:=next l (Z9 hI hi)
       exact ⟨z,hbody z h1,h2⟩
   · simp only [bf h5,cond_false,add_eq (UM us) S its (show its.length ≤ 1000000 by omega) x,bind_some] at hbody
     simp only [if_neg h5]
     cases hA:H6 S its x with
     | inl c =>
       simp only [hA] at hbody
       exact ⟨_,hbody _ rfl,_,_,_,_,rfl⟩
     | inr l =>
       simp only [hA] at hbody
       obtain ⟨z,h1,h2⟩:=next l (G2 hA).1
       exact ⟨z,hbody z h1,h2⟩
def a1Y:List Str → List Pm → Bool
 | _,[] => false
 | S,p :: r => if p.1 ∈ S then true else a1Y (S ++ [p.1]) r
def m9 (u:Unt):List Pm:=if u.1 = true then u.2.2.1 else (u.2.2.1 ++ [(u.2.2.2.1,u.2.2.2.2.1)]) ++ u.2.2.2.2.2.1
def nmP (l:List Pm):List Str:=l.map (·.1)
theorem d9p (u:Unt) (mu:Mu) (mg:Mb) (its:List Itm) (N:Nat) (hN:N ≤ 1000):∀ (suf pre:List Pm),N = (pre ++ suf).length →
  ∃ z,b7N T.rb u (SM ((nmP pre).drop u.2.2.1.length)) (pre ++ suf) mu (SM (nmP pre)) mg its (N:Nat) (pre.length:Nat) = some z ∧
   (if a1Y (nmP pre) suf = true then ∃ u1 u2 u3 u4 u5 u6 u7,z = .inl (u1,u2,u3,u4,u5,u6,u7,9) else z = .inr (u,SM ((nmP (pre ++ suf)).drop u.2.2.1.length),pre ++ suf,mu,SM (nmP (pre ++ suf)),mg,its))
 | [],pre,h => ⟨.inr (u,SM ((nmP pre).drop u.2.2.1.length),pre ++ [],mu,SM (nmP pre),mg,its),c9z (by simp only [b7b,J1 pre h,cond_false]),by rw [a1Y,if_neg (by decide),List.append_nil]⟩
 | p :: suf,pre,h => by
   have hp:pre.length ≤ 1000:=by simp at h; omega
   have hbody:∀ z,(b7b T.rf T.rb u (SM ((nmP pre).drop u.2.2.1.length)) (pre ++ p :: suf) mu (SM (nmP pre)) mg its (N:Nat) (pre.length:Nat) = some z) → b7N T.rb u (SM ((nmP pre).drop u.2.2.1.length)) (pre ++ p :: suf) mu (SM (nmP pre)) mg its (N:Nat) (pre.length:Nat) = some z:=fun z hz => c9z hz
   simp only [b7b,J2 pre p suf h,a5,a6,cond_true,bind_some,e9 pre p (by omega),a0A,X8,a7n,a4Y,b1B,a7U,a2T,a0B,a2S,a0z,a9r] at hbody
   by_cases hm:p.1 ∈ nmP pre
   · rw [dt hm] at hbody
     simp only [Bool.not_true,a0m,bind_some] at hbody
     exact ⟨_,hbody _ rfl,by rw [a1Y,if_pos hm,if_pos rfl]; exact ⟨_,_,_,_,_,_,_,rfl⟩⟩
   · rw [df hm] at hbody
     simp only [Bool.not_false,a1i,bind_some,b5y hm] at hbody
     have hsn:nmP (pre ++ [p]) = nmP pre ++ [p.1]:=by simp [nmP]
     obtain ⟨z,h1,h2⟩:=d9p u mu mg its N hN suf (pre ++ [p]) (by simpa using h)
     simp only [List.append_assoc,List.singleton_append,hsn] at h1 h2
     have hl:(nmP pre).length = pre.length:=by simp [nmP]
     refine ⟨z,hbody z ?_,by rw [a1Y,if_neg hm]; exact h2⟩
     by_cases hge:u.2.2.1.length ≤ pre.length
     · rw [dt (show ((pre.length:Nat):Int) ≥ ((u.2.2.1.length:Nat):Int) by omega),cond_true,b5y (fun g => hm (List.mem_of_mem_drop g))]
       rw [← List.drop_append_of_le_length (by omega)]
       exact h1
     · rw [df (show ¬ ((pre.length:Nat):Int) ≥ ((u.2.2.1.length:Nat):Int) by omega),cond_false]
       have e1:(nmP pre).drop u.2.2.1.length = []:=List.drop_eq_nil_of_le (by omega)
       have e2:(nmP pre ++ [p.1]).drop u.2.2.1.length = []:=List.drop_eq_nil_of_le (by simp; omega)
       rw [e2] at h1
       rw [e1]
       exact h1
def N3 (e:List Nd):Nat → Int → Int
 | 0,_ => 0
 | f + 1,i => if 0 ≤ i then (match nth e i.toNat with
   | some n => 1 + N3 e f n.2.2.1
   | none => 0) else 0
def a5d (e:List Nd):Prop:=∀ (i:Nat) (n:Nd),nth e i = some n → (n.2.1 = -1 ∨ (0 ≤ n.2.1 ∧ n.2.1 < i)) ∧ (n.2.2.1 = -1 ∨ (0 ≤ n.2.2.1 ∧ n.2.2.1 < i))
theorem b7E {n:Nd} (h:n = aim (blank n) (kids n)):(n.2.1 = -1 ∨ n.2.1 ∈ kids n) ∧ (n.2.2.1 = -1 ∨ n.2.2.1 ∈ kids n):=by
 have hl:=I4 n
 rcases hk:kids n with _ | ⟨a,_ | ⟨b,_ | ⟨c,r⟩⟩⟩
 · rw [hk] at h; simp only [aim,blank] at h; rw [h]; exact ⟨.inl rfl,.inl rfl⟩
 · rw [hk] at h; simp only [aim,blank] at h; rw [h]; exact ⟨.inr (by simp),.inl rfl⟩
 · rw [hk] at h
   simp only [aim] at h
   by_cases h28:n.1 = 28
   · rw [if_pos (show (blank n).1 = 28 from h28)] at h
     have e1:n.2.1 = b:=congrArg (·.2.1) h
     have e2:n.2.2.1 = a:=congrArg (·.2.2.1) h
     rw [e1,e2]; exact ⟨.inr (by simp),.inr (by simp)⟩
   · rw [if_neg (show ¬ (blank n).1 = 28 from h28)] at h
     have e1:n.2.1 = a:=congrArg (·.2.1) h
     have e2:n.2.2.1 = b:=congrArg (·.2.2.1) h
     rw [e1,e2]; exact ⟨.inr (by simp),.inr (by simp)⟩
 · rw [hk] at h; simp only [aim,blank] at h; rw [h]; exact ⟨.inr (by simp),.inr (by simp)⟩
theorem b0V {e:List Nd} (h:s8 e = true):a5d (norm e):=by
 intro i n hn
 have hm:n ∈ norm e:=by rw [nth_getElem?] at hn; exact List.mem_of_getElem? hn
 have hA:=a3O h i n hn
 obtain ⟨h1,h2⟩:=b7E (a8M h n hm).1
 refine ⟨?_,?_⟩
 · rcases h1 with g | g
   · exact .inl g
   · exact .inr (hA _ g)
 · rcases h2 with g | g
   · exact .inl g
   · exact .inr (hA _ g)
theorem a7P {e:List Nd} (he:e.length ≤ 1000000) (hB:a5d e):∀ (f:Nat) (i c:Int),i < f → i < e.length → f ≤ 1000000 → -1 ≤ i → 0 ≤ c → c + f ≤ 2000000 → c3T T.rb e c i = some (c + N3 e f i)
 | 0,i,c,h1,h2,h3,h4,h5,h6 => c9E (by
   simp only [b7e,df (show ¬ i ≥ 0 by omega),cond_false,N3]; simp)
 | f + 1,i,c,h1,h2,h3,h4,h5,h6 => c9E (by
   by_cases hi:0 ≤ i
   · obtain ⟨m,rfl⟩:=Int.eq_ofNat_of_zero_le hi
     have hm:m < e.length:=by omega
     have hn:nth e m = some e[m]:=a1D hm
     obtain ⟨_,hb⟩:=hB m e[m] hn
     have ih:=a7P he hB f e[m].2.2.1 (c + 1) (by rcases hb with g | g <;> omega) (by rcases hb with g | g <;> omega) (by omega) (by rcases hb with g | g <;> omega) (by omega) (by omega)
     simp only [b7e,dt (show ((m:Nat):Int) ≥ 0 by omega),cond_true,B5,dt hm,Int.toNat_natCast,hn,bind_some,wr (show -9223372036854775808 ≤ c + 1 ∧ c + 1 ≤ 9223372036854775807 by omega),ih,N3,if_pos hi]
     congr 1; omega
   · simp only [b7e,df (show ¬ i ≥ 0 by omega),cond_false,N3,if_neg hi]; simp)
def s9 (U:Str → Option Unt) (S G:List Str) (e:List Nd):List Nd → Int
 | [] => 0
 | n :: r => if n.1 = 3 then (if n.2.2.2.2.2 ∈ G then 13 else if n.2.2.2.2.2 ∈ S then s9 U S G e r else 8) else if n.1 = 27 then (match U n.2.2.2.2.2 with
   | none => 14
   | some k => if k.1 = false ∧ ((k.2.2.1.length:Nat):Int) = N3 e e.length n.2.1 then s9 U S G e r else 14) else s9 U S G e r
theorem c0e {e:List Nd} (he:e.length ≤ 1000000) (hB:a5d e) {i:Nat} {n:Nd} (hn:nth e i = some n):d1D T.rf e n = some (N3 e e.length n.2.1):=d7F (by
 have hi:i < e.length:=by rw [nth_getElem?] at hn; exact (List.getElem?_eq_some_iff.1 hn).1
 obtain ⟨ha,_⟩:=hB i n hn
 have:=a7P he hB e.length n.2.1 0 (by rcases ha with g | g <;> omega) (by rcases ha with g | g <;> omega) he (by rcases ha with g | g <;> omega) (by omega) (by omega)
 simp only [c5b,this,bind_some]; congr 1; omega)
theorem b0J (us:List Unt) (S G:List Str) (its:List Itm) {e:List Nd} (he:e.length ≤ 1000000) (hB:a5d e):∀ (suf pre:List Nd),e = pre ++ suf →
  b3j T.rb (UM us) (SM S) (SM G) its e e (e.length:Nat) (pre.length:Nat) = some (if s9 (fU us) S G e suf = 0 then .inr (UM us,SM S,SM G,its) else .inl (UM us,SM S,SM G,its,s9 (fU us) S G e suf))
 | [],pre,h => c9D (by
   have:decide (((pre.length:Nat):Int) < ((e.length:Nat):Int)) = false:=by rw [h]; exact j9 pre
   simp only [b9f,this,cond_false]; rfl)
 | n :: suf,pre,h => c9D (by
   have hp:pre.length < 4611686018427387904:=by have:=congrArg List.length h; simp at this; omega
   have hlt:decide (((pre.length:Nat):Int) < ((e.length:Nat):Int)) = true:=by rw [h]; exact g8 pre n suf
   have hin:inb ((pre.length:Nat):Int) e.length = true:=by rw [h]; exact a5 pre n suf
   have hnt:nth e ((pre.length:Nat):Int).toNat = some n:=by rw [h]; exact a6 pre n suf
   have hnt':nth e pre.length = some n:=by rwa [Int.toNat_natCast] at hnt
   have ih:=b0J us S G its he hB suf (pre ++ [n]) (by simpa using h)
   simp only [b9f,hlt,hin,hnt,cond_true,bind_some,e9 pre n hp,a0A,X8,a7n,a4Y,b1B,a7U,a2T,a0B,a2S,a0z,a9r,b2v,b5N,c0e he hB hnt',V0,ih,s9]
   by_cases h3:n.1 = 3
   · simp only [bt h3,cond_true,if_pos h3]
     by_cases hG:n.2.2.2.2.2 ∈ G
     · simp only [dt hG,if_pos hG]; rfl
     · simp only [df hG,if_neg hG,Bool.not_false,if_true]
       by_cases hS:n.2.2.2.2.2 ∈ S
       · simp only [dt hS,if_pos hS,if_true]
       · simp only [df hS,if_neg hS]; rfl
   · simp only [bf h3,cond_false,if_neg h3]
     by_cases h27:n.1 = 27
     · simp only [bt h27,cond_true,if_pos h27]
       cases hU:fU us n.2.2.2.2.2 with
       | none => rfl
       | some k =>
         simp only [Option.isSome_some,cond_true,Option.getD_some]
         cases hk:k.1 with
         | true =>
           simp only [Bool.not_true,cond_false,Bool.false_eq_true,if_false,Bool.true_eq_false,false_and]
           rfl
         | false =>
           simp only [Bool.not_false,cond_true,true_and]
           by_cases hc:((k.2.2.1.length:Nat):Int) = N3 e e.length n.2.1
           · simp only [bt hc,if_true,if_pos hc]
           · simp only [bf hc,if_neg hc,Bool.false_eq_true,if_false]; rfl
     · simp only [bf h27,cond_false,if_neg h27])
theorem c3M (us:List Unt) (S G:List Str) (its:List Itm) {e:List Nd} (he:e.length ≤ 1000000) (hB:a5d e) :
  d1C T.rf (UM us) (SM S) (SM G) its e = some (if s9 (fU us) S G e e = 0 then .inr (UM us,SM S,SM G,its) else .inl (UM us,SM S,SM G,its,s9 (fU us) S G e e)):=d7E (by
 have:=b0J us S G its he hB e [] rfl
 rw [List.length_nil,show ((0:Nat):Int) = (0:Int) from rfl] at this
 simp only [c5a,this,bind_some]
 by_cases hk:s9 (fU us) S G e e = 0
 · simp only [if_pos hk]
 · simp only [if_neg hk])
def P6 (U:Str → Option Unt) (S G A:List Str):List Str → List Eqn → Int ⊕ List Str
 | O,[] => .inr O
 | O,q :: r => if q.1 ∈ A then (if q.1 ∈ O then (if s9 U S G q.2 q.2 = 0 then P6 U S G A (O.erase q.1) r else .inl (s9 U S G q.2 q.2)) else .inl 9) else .inl 8
theorem d3M (us:List Unt) (S G A:List Str) (its:List Itm) (N:Nat) (hN:N ≤ 1000):∀ (suf pre:List Eqn) (O:List Str),N = (pre ++ suf).length → (∀ q ∈ suf,q.2.length ≤ 1000000 ∧ a5d q.2) →
  ∃ z,c0F T.rb (SM O) (SM A) (UM us) (SM S) (SM G) its (pre ++ suf) (N:Nat) (pre.length:Nat) = some z ∧ Sp (fun c => ∃ u1 u2 u3 u4 u5 u6,z = .inl (u1,u2,u3,u4,u5,u6,c)) (fun l => z = .inr (SM l,SM A,UM us,SM S,SM G,its)) (P6 (fU us) S G A O suf)
 | [],pre,O,h,hs => ⟨_,c9C (by simp only [b7d,J1 pre h,cond_false]),rfl⟩
 | q :: suf,pre,O,h,hs => by
   have hp:pre.length ≤ 1000:=by simp at h; omega
   obtain ⟨q1,q2⟩:=hs q List.mem_cons_self
   have hbody:∀ z,(b7d T.rf T.rb (SM O) (SM A) (UM us) (SM S) (SM G) its (pre ++ q :: suf) (N:Nat) (pre.length:Nat) = some z) → c0F T.rb (SM O) (SM A) (UM us) (SM S) (SM G) its (pre ++ q :: suf) (N:Nat) (pre.length:Nat) = some z:=fun z hz => c9C hz
   simp only [b7d,J2 pre q suf h,a5,a6,cond_true,bind_some,e9 pre q (by omega),a0A,X8,a7n,a4Y,b1B,a7U,a2T,a0B,a2S,a0z,a9r,V0,c3M us S G its q1 q2,c2x] at hbody
   simp only [P6]
   by_cases hA:q.1 ∈ A
   case neg =>
    simp only [df hA] at hbody
    rw [if_neg hA]
    exact ⟨_,hbody _ rfl,_,_,_,_,_,_,rfl⟩
   rw [if_pos hA]
   simp only [dt hA,if_true] at hbody
   by_cases hO:q.1 ∈ O
   case neg =>
    simp only [df hO] at hbody
    rw [if_neg hO]
    exact ⟨_,hbody _ rfl,_,_,_,_,_,_,rfl⟩
   rw [if_pos hO]
   simp only [dt hO,if_true] at hbody
   by_cases hu:s9 (fU us) S G q.2 q.2 = 0
   case neg =>
    simp only [if_neg hu] at hbody
    rw [if_neg hu]
    exact ⟨_,hbody _ rfl,_,_,_,_,_,_,rfl⟩
   simp only [if_pos hu] at hbody
   rw [if_pos hu]
   obtain ⟨z,h1,h2⟩:=d3M us S G A its N hN suf (pre ++ [q]) (O.erase q.1) (by simpa using h) (fun y hy => hs y (List.mem_cons_of_mem _ hy))
   simp only [List.append_assoc,List.singleton_append] at h1
   exact ⟨z,hbody z h1,h2⟩
end Go.Proofs.YtelpjfihadaomaaGreatDoor.R
