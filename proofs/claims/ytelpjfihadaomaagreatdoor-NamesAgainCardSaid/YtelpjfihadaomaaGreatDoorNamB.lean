import Derived.Test.YtelpjfihadaomaaGreatDoorNamA
import Derived.Test.YtelpjfihadaomaaGreatDoorTreX
open Option (bind_some)
namespace Go.Proofs.YtelpjfihadaomaaGreatDoor.R
open Go Go.Bm Go.Proofs
set_option linter.unusedVariables false
set_option linter.unusedSimpArgs false
set_option maxRecDepth 4000
theorem G2 {S:List Str} {out l:List Itm} {x:Itm} (h:H6 S out x = .inr l):l.length ≤ 200 ∧ l = out ++ [x]:=by
 unfold H6 at h
 split at h
 · cases h
 split at h
 · cases h; rename_i h2; simp; omega
 · cases h
def H7 (e:List Nd) (names:List Str) (by_:List (List Nd)):List Nd × Bool:=if e = [] then ([],true) else (put e names by_,s8 (put e names by_))
theorem b1f (names:List Str) (by_:List (List Nd)) (hnb:names.length = by_.length) (B:Nat) (hB:1 ≤ B) (hby:∀ x ∈ by_,(norm x).length ≤ B):∀ (l o:List Nd) (at_:List Int),(Y9 names by_ l o at_).length ≤ o.length + B * l.length
 | [],o,at_ => by simp [Y9]
 | n :: r,o,at_ => by
   rw [Y9]
   refine Nat.le_trans (b1f names by_ hnb B hB hby r _ _) ?_
   split
   · rename_i h
     have hlt:=G7 n.2.2.2.2.2 names 0
     have h1:(j7 n.2.2.2.2.2 names 0).toNat < by_.length:=by
      rcases hlt with g | g
      · omega
      · omega
     have h2:=hby _ (List.getElem_mem h1)
     rw [List.getD_eq_getElem?_getD,List.getElem?_eq_getElem h1]
     simp only [Option.getD_some,List.length_append,List.length_map,List.length_cons,Nat.mul_add]
     omega
   · simp only [List.length_append,List.length_cons,List.length_nil,Nat.mul_add]
     omega
theorem b3L {e:List Nd} {names:List Str} {by_:List (List Nd)} (hby:∀ x ∈ by_,x.length ≤ 200):(put e names by_).length ≤ 1000000:=by
 unfold put
 split
 · rename_i h
   have hm:=h.1
   have h1:=(K2 hm).2.1
   have h5:e.length ≤ 5000:=by
    have hm':=hm
    unfold s8 at hm'
    simp only [Bool.and_eq_true,decide_eq_true_eq] at hm'
    exact hm'.2.1
   have:=b1f names by_ h.2.1 200 (by omega) (fun x hx => by
    have hx2:=List.all_eq_true.1 h.2.2 x hx
    rw [(K2 hx2).2.1]; exact hby x hx) (norm e) [] []
   simp only [List.length_nil] at this
   omega
 · simp
theorem b6x {e:List Nd} {names:List Str} {by_:List (List Nd)} (he:e.length ≤ 1000000) (hn:names.length ≤ 1000) (hb:by_.length ≤ 1000) (hby:∀ x ∈ by_,x.length ≤ 200) :
  c3l T.rf names by_ e = some (names,by_,H7 e names by_):=d7C (by
 simp only [c4Z,c0Q]
 by_cases h0:e = []
 · subst h0; rfl
 · have:¬ e.length = 0:=fun g => h0 (List.length_eq_zero_iff.1 g)
   rw [df this,cond_false,d1e he hn hb (fun x hx => by have:=hby x hx; omega),bind_some,a7z (b3L hby),bind_some,H7,if_neg h0])
def S5 (nm:Str) (names:List Str) (by_:List (List Nd)) (y:Itm):Int ⊕ Itm :=
 if y.2.1 ≠ [] ∧ m6 ((nm ++ [95]) ++ y.2.1) = false then .inl 8 else
 if ((H7 y.2.2.2.1 names by_).2 && (H7 y.2.2.2.2.1 names by_).2) = true then .inr (y.1,(if y.2.1 = [] then [] else (nm ++ [95]) ++ y.2.1),y.2.2.1,(H7 y.2.2.2.1 names by_).1,(H7 y.2.2.2.2.1 names by_).1,y.2.2.2.2.2) else .inl 7
def m7 (S:List Str) (nm:Str) (names:List Str) (by_:List (List Nd)):List Itm → List Itm → Int ⊕ List Itm
 | [],out => .inr out
 | y :: r,out => match S5 nm names by_ y with
   | .inl c => .inl c
   | .inr y' => match H6 S out y' with
     | .inl c => .inl c
     | .inr out' => m7 S nm names by_ r out'
def K1 (k:Unt):List Str:=k.2.2.1.map (·.1) ++ gn k.2.2.2.2.2.2.2
def K0 (k:Unt) (x:Itm):List (List Nd):=x.2.2.2.2.2 ++ (gn k.2.2.2.2.2.2.2).map fun g => join 3 0 ((x.2.1 ++ [95]) ++ g) []
def B4 (U:Str → Option Unt) (S:List Str) (out:List Itm) (x:Itm):Int ⊕ List Itm:=match U x.2.1 with
 | none => .inl 8
 | some k => if k.1 = true then (if k.2.2.1.length = x.2.2.2.2.2.length then m7 S x.2.1 (K1 k) (K0 k x) k.2.2.2.2.2.2.2 out else .inl 14) else .inl 8
theorem d6F (N:Nat) (hN:N ≤ 1000):∀ (suf pre:List Pm) (d:List Str),N = (pre ++ suf).length → d.length ≤ pre.length →
  c0D T.rb d (pre ++ suf) (N:Nat) (pre.length:Nat) = some (d ++ suf.map (·.1))
 | [],pre,d,h,hd => c9w (by simp only [b9b,J1 pre h,cond_false]; simp)
 | x :: suf,pre,d,h,hd => c9w (by
   have hp:pre.length ≤ 1000:=by simp at h; omega
   have ih:=d6F N hN suf (pre ++ [x]) (d ++ [x.1]) (by simpa using h) (by simp; omega)
   simp only [List.append_assoc,List.singleton_append] at ih
   simp only [b9b,J2 pre x suf h,a5,a6,cond_true,bind_some,j5 (show d.length + 1 ≤ 274877906944 by omega),Bool.and_true,e9 pre x (by omega),ih,List.map_cons])
theorem d2a (x:Itm) (hx:x.2.1.length ≤ 1000) (N:Nat) (hN:N ≤ 1000):∀ (suf pre:List Itm) (d:List Str) (b:List (List Nd)),N = (pre ++ suf).length → (∀ y ∈ suf,y.2.1.length ≤ 1000) → d.length ≤ 1000 + pre.length → b.length ≤ 1000 + pre.length →
  b1J T.rb x d b (pre ++ suf) (N:Nat) (pre.length:Nat) = some (x,d ++ gn suf,b ++ (gn suf).map fun g => join 3 0 ((x.2.1 ++ [95]) ++ g) [])
 | [],pre,d,b,h,hs,hd,hb => c9x (by simp only [b6Z,J1 pre h,cond_false]; simp [gn])
 | y :: suf,pre,d,b,h,hs,hd,hb => c9x (by
   have hp:pre.length ≤ 1000:=by simp at h; omega
   simp only [b6Z,J2 pre y suf h,a5,a6,cond_true,bind_some,e9 pre y (by omega)]
   by_cases h3:y.1 = 3
   · have ih:=d2a x hx N hN suf (pre ++ [y]) (d ++ [y.2.1]) (b ++ [join 3 0 ((x.2.1 ++ [95]) ++ y.2.1) []]) (by simpa using h) (fun z hz => hs z (List.mem_cons_of_mem _ hz)) (by simp; omega) (by simp; omega)
     simp only [List.append_assoc,List.singleton_append] at ih
     have hy:=hs y List.mem_cons_self
     have hj:b7t T.rf 3 0 ((x.2.1 ++ [95]) ++ y.2.1) [] = some (join 3 0 ((x.2.1 ++ [95]) ++ y.2.1) []):=c2O (by simp [total]) (by simp)
     simp only [List.append_assoc,List.singleton_append] at hj
     rw [bt h3]
     simp only [cond_true,j5 (show d.length + 1 ≤ 274877906944 by omega),j5 (show b.length + 1 ≤ 274877906944 by omega),j5 (show x.2.1.length + 1 ≤ 274877906944 by omega),j5 (show (x.2.1 ++ [95]).length + y.2.1.length ≤ 274877906944 by simp; omega),Bool.and_true,List.append_assoc,List.singleton_append,hj,bind_some,ih,gn,if_pos h3,List.map_cons]
   · have ih:=d2a x hx N hN suf (pre ++ [y]) d b (by simpa using h) (fun z hz => hs z (List.mem_cons_of_mem _ hz)) (by simp; omega) (by simp; omega)
     simp only [List.append_assoc,List.singleton_append] at ih
     rw [bf h3]
     simp only [cond_false,ih,gn,if_neg h3,List.append_assoc,List.singleton_append])
theorem d6G (x:Itm) (hx:x.2.1.length ≤ 1000) (names:List Str) (by_:List (List Nd)) (hn:names.length ≤ 1000) (hb:by_.length ≤ 1000) (hby:∀ x ∈ by_,x.length ≤ 200) (mu:Mu) (S:List Str) (N:Nat) (hN:N ≤ 1000) :
  ∀ (suf pre:List Itm) (its:List Itm),N = (pre ++ suf).length → (∀ y ∈ suf,y.2.1.length ≤ 1000 ∧ y.2.2.2.1.length ≤ 1000000 ∧ y.2.2.2.2.1.length ≤ 1000000) → its.length ≤ 1000 →
  ∃ z,a8o T.rb x names by_ mu (SM S) (SM (gn its)) its (pre ++ suf) (N:Nat) (pre.length:Nat) = some z ∧ Sp (fun c => ∃ u1 u2 u3 u4 u5 u6 u7,z = .inl (u1,u2,u3,u4,u5,u6,u7,c)) (fun l => z = .inr (x,names,by_,mu,SM S,SM (gn l),l)) (m7 S x.2.1 names by_ suf its)
 | [],pre,its,h,hs,hi => ⟨_,c9y (by simp only [b7a,J1 pre h,cond_false]),rfl⟩
 | y :: suf,pre,its,h,hs,hi => by
   have hp:pre.length ≤ 1000:=by simp at h; omega
   obtain ⟨hy1,hy2,hy3⟩:=hs y List.mem_cons_self
   have go:∀ (nm':Str) (a b:List Nd),∃ z,((b2M T.rf mu (SM S) (SM (gn its)) its (y.1,nm',y.2.2.1,a,b,y.2.2.2.2.2)).bind fun y11 => match y11 with
     | .inl u12 => some (.inl (x,names,by_,u12))
     | .inr w13 => a8o T.rb x names by_ w13.1 w13.2.1 w13.2.2.1 w13.2.2.2 (pre ++ y :: suf) (N:Nat) (((pre ++ [y]).length:Nat):Int)) = some z ∧ Sp (fun c => ∃ u1 u2 u3 u4 u5 u6 u7,z = .inl (u1,u2,u3,u4,u5,u6,u7,c)) (fun l => z = .inr (x,names,by_,mu,SM S,SM (gn l),l)) ((match H6 S its (y.1,nm',y.2.2.1,a,b,y.2.2.2.2.2) with
       | .inl c => .inl c
       | .inr out' => m7 S x.2.1 names by_ suf out')):=by
    intro nm' a b
    rw [add_eq mu S its (by omega)]
    cases ha:H6 S its (y.1,nm',y.2.2.1,a,b,y.2.2.2.2.2) with
    | inl c => exact ⟨_,rfl,_,_,_,_,_,_,_,rfl⟩
    | inr l =>
      obtain ⟨z,h1,h2⟩:=d6G x hx names by_ hn hb hby mu S N hN suf (pre ++ [y]) l (by simpa using h) (fun z hz => hs z (List.mem_cons_of_mem _ hz)) (by have:=(G2 ha).1; omega)
      simp only [List.append_assoc,List.singleton_append] at h1
      exact ⟨z,by simp only [bind_some]; exact h1,h2⟩
   have hpE:=b6x (e:=y.2.2.2.1) hy2 hn hb hby
   have hpF:=b6x (e:=y.2.2.2.2.1) hy3 hn hb hby
   have hnm:(!(y.2.1 == ([]:Str))) = decide (y.2.1 ≠ []):=by
    by_cases g:y.2.1 = []
    · rw [g]; rfl
    · rw [dt g,beq_eq_false_iff_ne.2 g]; rfl
   have hbody:∀ z,(b7a T.rf T.rb x names by_ mu (SM S) (SM (gn its)) its (pre ++ y :: suf) (N:Nat) (pre.length:Nat) = some z) → a8o T.rb x names by_ mu (SM S) (SM (gn its)) its (pre ++ y :: suf) (N:Nat) (pre.length:Nat) = some z:=fun z hz => c9y hz
   have hb1:Nat.ble (x.2.1.length + 1) j8 = true:=j5 (by omega)
   have hb2:Nat.ble ((x.2.1 ++ ([95]:Str)).length + y.2.1.length) j8 = true:=j5 (by simp; omega)
   simp only [b7a,J2 pre y suf h,a5,a6,cond_true,bind_some,e9 pre y (by omega),hpE,hpF,hnm,hb1,hb2,P9] at hbody
   by_cases h0:y.2.1 = []
   · rw [df (fun g => g h0)] at hbody
     simp only [cond_false] at hbody
     have hno:¬ (y.2.1 ≠ [] ∧ m6 ((x.2.1 ++ [95]) ++ y.2.1) = false):=fun g => g.1 h0
     simp only [m7,S5,if_neg hno,if_pos h0]
     cases hE:(H7 y.2.2.2.1 names by_).2 <;> cases hF:(H7 y.2.2.2.2.1 names by_).2 <;> rw [hE] at hbody <;> simp only [hF,cond_true,cond_false,a1i,a0m,bind_some] at hbody
     · exact ⟨_,hbody _ rfl,_,_,_,_,_,_,_,rfl⟩
     · exact ⟨_,hbody _ rfl,_,_,_,_,_,_,_,rfl⟩
     · exact ⟨_,hbody _ rfl,_,_,_,_,_,_,_,rfl⟩
     · obtain ⟨z,h1,h2⟩:=go y.2.1 (H7 y.2.2.2.1 names by_).1 (H7 y.2.2.2.2.1 names by_).1
       rw [h0] at h1 h2 hbody
       exact ⟨z,hbody z h1,h2⟩
   · rw [dt h0] at hbody
     simp only [cond_true,V0,bind_some] at hbody
     cases hN':m6 ((x.2.1 ++ [95]) ++ y.2.1) with
     | false =>
       simp only [hN',Bool.false_eq_true,if_false] at hbody
       have hyes:(y.2.1 ≠ [] ∧ m6 ((x.2.1 ++ [95]) ++ y.2.1) = false):=⟨h0,hN'⟩
       simp only [m7,S5,if_pos hyes]
       exact ⟨_,hbody _ rfl,_,_,_,_,_,_,_,rfl⟩
     | true =>
       simp only [hN',if_true] at hbody
       have hno:¬ (y.2.1 ≠ [] ∧ m6 ((x.2.1 ++ [95]) ++ y.2.1) = false):=fun g => by rw [hN'] at g; cases g.2
       simp only [m7,S5,if_neg hno,if_neg h0]
       cases hE:(H7 y.2.2.2.1 names by_).2 <;> cases hF:(H7 y.2.2.2.2.1 names by_).2 <;> rw [hE] at hbody <;> simp only [hF,cond_true,cond_false,Bool.false_eq_true,if_false,if_true] at hbody
       · exact ⟨_,hbody _ rfl,_,_,_,_,_,_,_,rfl⟩
       · exact ⟨_,hbody _ rfl,_,_,_,_,_,_,_,rfl⟩
       · exact ⟨_,hbody _ rfl,_,_,_,_,_,_,_,rfl⟩
       · obtain ⟨z,h1,h2⟩:=go ((x.2.1 ++ [95]) ++ y.2.1) (H7 y.2.2.2.1 names by_).1 (H7 y.2.2.2.2.1 names by_).1
         exact ⟨z,hbody z h1,h2⟩
structure UOk (k:Unt):Prop where
 i:k.2.2.1.length ≤ 200
 x:k.2.2.2.2.2.2.2.length ≤ 200
 nm:∀ y ∈ k.2.2.2.2.2.2.2,y.2.1.length ≤ 1000 ∧ y.2.2.2.1.length ≤ 5000 ∧ y.2.2.2.2.1.length ≤ 5000
theorem b3g (s:List UInt8):join 3 0 s [] = [a9K s]:=by
 simp [join,kids,R7,R8,aim,a9K]
theorem b9R {k:Unt} {x:Itm} (ha:∀ y ∈ x.2.2.2.2.2,y.length ≤ 200):∀ y ∈ K0 k x,y.length ≤ 200:=by
 intro y hy
 rcases List.mem_append.1 hy with hy | hy
 · exact ha y hy
 · obtain ⟨g,_,rfl⟩:=List.mem_map.1 hy
   rw [b3g]; simp
theorem b4P {us:List Unt} (hus:∀ k ∈ us,UOk k) (S:List Str) (its:List Itm) (hi:its.length ≤ 1000) {x:Itm} (hx:x.2.1.length ≤ 1000) (hc:x.2.2.2.2.2.length ≤ 200) (ha:∀ y ∈ x.2.2.2.2.2,y.length ≤ 200) :
  ∃ z,c3j T.rf (UM us) (SM S) (SM (gn its)) its x = some z ∧ Sp (fun c => (∃ u1 u2 u3 u4,z = .inl (u1,u2,u3,u4,c)) ∨ ∃ u1 u2 u3 u4,z = .inr (.inl (u1,u2,u3,u4,c))) (fun l => z = .inr (.inr (UM us,SM S,SM (gn l),l))) (B4 (fU us) S its x):=by
 have hbody:∀ z,(c2c T.rf T.rb (UM us) (SM S) (SM (gn its)) its x = some z) → c3j T.rf (UM us) (SM S) (SM (gn its)) its x = some z:=fun z hz => d7t hz
 simp only [c2c,a2T,a0B,a2S,a0z,b2v,b5N] at hbody
 cases hk:fU us x.2.1 with
 | none =>
   simp only [hk,Option.isSome_none,cond_false,a0m,bind_some] at hbody
   rw [show B4 (fU us) S its x = .inl 8 from by simp only [B4,hk]]
   exact ⟨_,hbody _ rfl,.inl ⟨_,_,_,_,rfl⟩⟩
 | some k =>
   have hkm:k ∈ us:=List.mem_of_find?_eq_some hk
   have ho:=hus k hkm
   simp only [hk,Option.isSome_some,cond_true,Option.getD_some,V0,bind_some] at hbody
   cases h1:k.1 with
   | false =>
     simp only [h1,Bool.false_eq_true,if_false] at hbody
     rw [show B4 (fU us) S its x = .inl 8 from by simp only [B4,hk,h1,Bool.false_eq_true,if_false]]
     exact ⟨_,hbody _ rfl,.inl ⟨_,_,_,_,rfl⟩⟩
   | true =>
     simp only [h1,if_true] at hbody
     by_cases hl:k.2.2.1.length = x.2.2.2.2.2.length
     case neg =>
      have:((((k.2.2.1.length:Nat):Int)) == (((x.2.2.2.2.2.length:Nat):Int))) = false:=bf (by omega)
      simp only [this,Bool.false_eq_true,if_false] at hbody
      rw [show B4 (fU us) S its x = .inl 14 from by simp only [B4,hk,h1,if_true,if_neg hl]]
      exact ⟨_,hbody _ rfl,.inl ⟨_,_,_,_,rfl⟩⟩
     have:((((k.2.2.1.length:Nat):Int)) == (((x.2.2.2.2.2.length:Nat):Int))) = true:=bt (by omega)
     have h0:=d6F k.2.2.1.length (by have:=ho.i; omega) k.2.2.1 [] [] rfl (by simp)
     have hg:=b4N k.2.2.2.2.2.2.2
     have hxl:=ho.x
     have hil:=ho.i
     have h2:=d2a x hx k.2.2.2.2.2.2.2.length (by omega) k.2.2.2.2.2.2.2 [] (k.2.2.1.map (·.1)) x.2.2.2.2.2 rfl (fun y hy => (ho.nm y hy).1) (by simp; omega) (by simp; omega)
     obtain ⟨z,h3,h4⟩:=d6G x hx (K1 k) (K0 k x) (by simp [K1]; omega) (by simp [K0]; omega) (b9R ha) (UM us) S k.2.2.2.2.2.2.2.length (by omega) k.2.2.2.2.2.2.2 [] its rfl (fun y hy => ⟨(ho.nm y hy).1,by have:=(ho.nm y hy).2.1; omega,by have:=(ho.nm y hy).2.2; omega⟩) hi
     simp only [List.nil_append,List.length_nil] at h0 h2 h3
     rw [show ((0:Nat):Int) = (0:Int) from rfl] at h0 h2 h3
     simp only [this,if_true,b5Y (show x.2.2.2.2.2.length ≤ 1000000 by omega),bind_some,h0,h2] at hbody
     rw [show B4 (fU us) S its x = m7 S x.2.1 (K1 k) (K0 k x) k.2.2.2.2.2.2.2 its from by simp only [B4,hk,h1,if_true,if_pos hl]]
     have h3':a8o T.rb x (k.2.2.1.map (·.1) ++ gn k.2.2.2.2.2.2.2) (x.2.2.2.2.2 ++ (gn k.2.2.2.2.2.2.2).map fun g => join 3 0 ((x.2.1 ++ [95]) ++ g) []) (UM us) (SM S) (SM (gn its)) its k.2.2.2.2.2.2.2 (k.2.2.2.2.2.2.2.length:Nat) 0 = some z:=h3
     rw [h3'] at hbody
     simp only [bind_some] at hbody
     revert h4
     cases m7 S x.2.1 (K1 k) (K0 k x) k.2.2.2.2.2.2.2 its with
     | inl c =>
       rintro ⟨u1,u2,u3,u4,u5,u6,u7,rfl⟩
       exact ⟨_,hbody _ rfl,.inr ⟨_,_,_,_,rfl⟩⟩
     | inr l =>
       rintro rfl
       exact ⟨_,hbody _ rfl,rfl⟩
end Go.Proofs.YtelpjfihadaomaaGreatDoor.R
