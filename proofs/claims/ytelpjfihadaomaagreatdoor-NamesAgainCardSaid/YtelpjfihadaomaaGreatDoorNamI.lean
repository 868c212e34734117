import Derived.Test.YtelpjfihadaomaaGreatDoorNamH
open List (length_append length_cons length_nil)
namespace Go.Proofs.YtelpjfihadaomaaGreatDoor.R
open Go Go.Bm Go.Proofs
set_option linter.unusedVariables false
set_option linter.unusedSimpArgs false
set_option maxRecDepth 4000
mutual
theorem b6g:∀ (t:Tr) (o p:Nat),Valid t → o + p + t.size ≤ 1000000000 → (flat t o).map (mv (p:Int)) = flat t (o + p)
 | .mk b ks,o,p,hv,h => by
   rw [Valid] at hv
   obtain ⟨v1,v2,v3,v4,v5,v6⟩:=hv
   rw [Tr.size] at h
   rw [flat,flat,List.map_append,b3c ks o p v6 (by omega)]
   have hr:=b3U ks o p
   have hm:=d2d v1 (p:Int) (by omega) (roots ks o) (by rw [G8]; exact v3) (fun x hx => by
    have:=Z0 ks o x hx; omega)
   rw [List.map_singleton,hm,hr]
theorem b3c:∀ (ks:List Tr) (o p:Nat),P1 ks → o + p + B9 ks ≤ 1000000000 → (s7 ks o).map (mv (p:Int)) = s7 ks (o + p)
 | [],o,p,hv,h => rfl
 | t :: r,o,p,hv,h => by
   rw [P1] at hv
   rw [B9] at h
   rw [s7,s7,List.map_append,b6g t o p hv.1 (by omega),b3c r _ p hv.2 (by omega)]
   congr 2; omega
theorem b3U:∀ (ks:List Tr) (o p:Nat),(roots ks o).map (fun x => x + (p:Int)) = roots ks (o + p)
 | [],o,p => rfl
 | t :: r,o,p => by
   have:=t.size_pos
   rw [roots,roots,List.map_cons,b3U r _ p]
   congr 1
   · omega
   · congr 1; omega
end
section
variable (names:List Str) (tv:Nat → Tr)
mutual
def a3Y:Tr → Tr
 | .mk b ks => if b.1 = 3 ∧ 0 ≤ j7 b.2.2.2.2.2 names 0 then tv (j7 b.2.2.2.2.2 names 0).toNat else .mk b (F5 ks)
def F5:List Tr → List Tr
 | [] => []
 | t :: r => a3Y t :: F5 r
end
end
theorem a5W (names:List Str) (tv:Nat → Tr):∀ ts:List Tr,(F5 names tv ts).length = ts.length
 | [] => rfl
 | t :: r => by rw [F5,length_cons,length_cons,a5W names tv r]
theorem b0n (b:Nd) (m:Nat) (names:List Str) (tv:Nat → Tr) (h:∀ t:Tr,t.op ≠ 28 → (a3Y names tv t).op ≠ 28) (h2:∀ t:Tr,t.op = 28 → (a3Y names tv t).op = 28):∀ (ts:List Tr) (a:Nat),a6c b m (F5 names tv ts) a = a6c b m ts a
 | [],a => rfl
 | t :: r,a => by
   rw [F5,a6c,a6c,b0n b m names tv h h2 r (a + 1)]
   congr 1
   unfold c2Y
   by_cases g:t.op = 28
   · rw [dt g,dt (h2 t g)]
   · rw [df g,df (h t g)]
structure TvOk (names:List Str) (by_:List (List Nd)) (tv:Nat → Tr):Prop where
 n:names.length = by_.length
 f:∀ k,k < by_.length → norm (by_.getD k []) = flat (tv k) 0 ∧ Valid (tv k) ∧ (tv k).op ≠ 28 ∧ (tv k).size ≤ 5000
theorem b6I {names:List Str} {by_:List (List Nd)} {tv:Nat → Tr} (h:TvOk names by_ tv) (t:Tr):(t.op ≠ 28 → (a3Y names tv t).op ≠ 28) ∧ (t.op = 28 → (a3Y names tv t).op = 28):=by
 obtain ⟨b,ks⟩:=t
 rw [a3Y]
 split
 · rename_i hc
   have hl:=G7 b.2.2.2.2.2 names 0
   have:=(h.f (j7 b.2.2.2.2.2 names 0).toNat (by have:=h.n; omega)).2.2.1
   exact ⟨fun _ => this,fun g => by rw [Tr.op] at g; omega⟩
 · exact ⟨fun g => g,fun g => g⟩
mutual
theorem a9C {names:List Str} {by_:List (List Nd)} {tv:Nat → Tr} (h:TvOk names by_ tv):∀ t:Tr,Valid t → Valid (a3Y names tv t)
 | .mk b ks,hv => by
   rw [a3Y]
   split
   · have hl:=G7 b.2.2.2.2.2 names 0
     exact (h.f (j7 b.2.2.2.2.2 names 0).toNat (by have:=h.n; omega)).2.1
   · rw [Valid] at hv ⊢
     obtain ⟨v1,v2,v3,v4,v5,v6⟩:=hv
     rw [a5W]
     exact ⟨v1,v2,v3,v4,by rw [b0n b _ names tv (fun t => (b6I h t).1) (fun t => (b6I h t).2)]; exact v5,a6U h ks v6⟩
theorem a6U {names:List Str} {by_:List (List Nd)} {tv:Nat → Tr} (h:TvOk names by_ tv):∀ ts:List Tr,P1 ts → P1 (F5 names tv ts)
 | [],hv => by rw [F5]; trivial
 | t :: r,hv => by
   rw [P1] at hv
   rw [F5,P1]
   exact ⟨a9C h t hv.1,a6U h r hv.2⟩
end
mutual
theorem d0U {names:List Str} {by_:List (List Nd)} {tv:Nat → Tr} (h:TvOk names by_ tv):∀ t:Tr,(a3Y names tv t).size ≤ 5000 * t.size
 | .mk b ks => by
   rw [a3Y]
   split
   · have hl:=G7 b.2.2.2.2.2 names 0
     have:=(h.f (j7 b.2.2.2.2.2 names 0).toNat (by have:=h.n; omega)).2.2.2
     rw [Tr.size]; omega
   · have:=b5w h ks
     rw [Tr.size,Tr.size]; omega
theorem b5w {names:List Str} {by_:List (List Nd)} {tv:Nat → Tr} (h:TvOk names by_ tv):∀ ts:List Tr,B9 (F5 names tv ts) ≤ 5000 * B9 ts
 | [] => by rw [F5,B9]; omega
 | t :: r => by
   have h1:=d0U h t
   have h2:=b5w h r
   rw [F5,B9,B9]; omega
end
theorem d1Y {a b:Nat} (h1:a ≤ 100000000) (h2:b ≤ 5000):0 + a + b ≤ 1000000000:=by omega
theorem c0s {l m:List Int} {k:Nat} (h:k < l.length):(l ++ m).getD k 0 = l.getD k 0:=by
 rw [List.getD_eq_getElem?_getD,List.getD_eq_getElem?_getD,List.getElem?_append_left h]
theorem b0H {l m:List Int} {k j:Nat} (h:k = l.length + j):(l ++ m).getD k 0 = m.getD j 0:=by
 rw [List.getD_eq_getElem?_getD,List.getD_eq_getElem?_getD,List.getElem?_append_right (by omega)]
 congr 2; omega
mutual
theorem b1e {names:List Str} {by_:List (List Nd)} {tv:Nat → Tr} (h:TvOk names by_ tv):∀ (t:Tr) (o:List Nd) (at_:List Int),Valid t → o.length + 5000 * t.size ≤ 100000000 →
  ∃ A:List Int,A.length = t.size ∧ A.getD (t.size - 1) 0 = ((o.length + (a3Y names tv t).size - 1:Nat):Int) ∧ ∀ rest,Y9 names by_ (flat t at_.length ++ rest) o at_ = Y9 names by_ rest (o ++ flat (a3Y names tv t) o.length) (at_ ++ A)
 | .mk b ks,o,at_,hv,hs => by
   have hv0:=hv
   rw [Valid] at hv
   obtain ⟨v1,v2,v3,v4,v5,v6⟩:=hv
   rw [Tr.size] at hs
   rw [a3Y]
   by_cases hc:b.1 = 3 ∧ 0 ≤ j7 b.2.2.2.2.2 names 0
   · rw [if_pos hc]
     have hl:=G7 b.2.2.2.2.2 names 0
     obtain ⟨f1,f2,f3,f4⟩:=h.f (j7 b.2.2.2.2.2 names 0).toNat (by have:=h.n; omega)
     have hks:ks = []:=by
      have:=v2 (roots ks 1) (G8 ks 1) (fun x hx => by have:=Z0 ks 1 x hx; omega)
      have h0:kids (aim b (roots ks 1)) = []:=by
       unfold kids
       rw [a5m,hc.1]; rfl
      rw [h0] at this
      have:=congrArg List.length this
      rw [G8] at this
      exact List.length_eq_zero_iff.1 this.symm
     subst hks
     have hsz:=(tv (j7 b.2.2.2.2.2 names 0).toNat).size_pos
     refine ⟨[((o.length + (tv (j7 b.2.2.2.2.2 names 0).toNat).size - 1:Nat):Int)],by simp [Tr.size,B9],by simp [Tr.size,B9],fun rest => ?_⟩
     rw [flat,s7,List.nil_append,List.singleton_append,Y9]
     have h1:(aim b (roots [] at_.length)).1 = 3:=by rw [a5m]; exact hc.1
     have h2:(aim b (roots [] at_.length)).2.2.2.2.2 = b.2.2.2.2.2:=by rw [a1T]
     have hmv:(norm (by_.getD (j7 b.2.2.2.2.2 names 0).toNat [])).map (mv o.length) = flat (tv (j7 b.2.2.2.2.2 names 0).toNat) o.length:=by
      have ho:o.length ≤ 100000000:=Nat.le_trans (Nat.le_add_right _ _) hs
      have hb:0 + o.length + (tv (j7 b.2.2.2.2.2 names 0).toNat).size ≤ 1000000000:=d1Y ho f4
      rw [f1,b6g _ 0 o.length f2 hb,Nat.zero_add]
     have hif:(if (aim b (roots [] at_.length)).1 = 3 ∧ 0 ≤ j7 (aim b (roots [] at_.length)).2.2.2.2.2 names 0 then o ++ (norm (by_.getD (j7 (aim b (roots [] at_.length)).2.2.2.2.2 names 0).toNat [])).map (mv o.length) else o ++ [aim (aim b (roots [] at_.length)) (atL at_ (kids (aim b (roots [] at_.length))))]) = o ++ flat (tv (j7 b.2.2.2.2.2 names 0).toNat) o.length:=by
      rw [h1,h2,if_pos ⟨rfl,hc.2⟩,hmv]
     simp only [hif]
     congr 3
     rw [length_append,D1]; omega
   · rw [if_neg hc]
     obtain ⟨A,a1,a2,a3⟩:=a8V h ks o at_ v6 (by omega)
     have hsl:=b5w h ks
     refine ⟨A ++ [((o.length + B9 (F5 names tv ks):Nat):Int)],by rw [Tr.size,length_append,a1]; rfl,?_,fun rest => ?_⟩
     · rw [Tr.size,Tr.size,b0H (show B9 ks + 1 - 1 = A.length + 0 by omega)]
       show ((o.length + B9 (F5 names tv ks):Nat):Int) = _
       congr 1
     · rw [flat,List.append_assoc,a3,List.singleton_append,Y9]
       have hk:kids (aim b (roots ks at_.length)) = roots ks at_.length:=v2 _ (G8 _ _) (fun x hx => by have:=Z0 ks _ x hx; omega)
       have h1:(aim b (roots ks at_.length)).1 = b.1:=a5m _ _
       have h2:(aim b (roots ks at_.length)).2.2.2.2.2 = b.2.2.2.2.2:=by rw [a1T]
       have hat:atL (at_ ++ A) (roots ks at_.length) = roots (F5 names tv ks) o.length:=a2
       have hif:(if (aim b (roots ks at_.length)).1 = 3 ∧ 0 ≤ j7 (aim b (roots ks at_.length)).2.2.2.2.2 names 0 then (o ++ s7 (F5 names tv ks) o.length) ++ (norm (by_.getD (j7 (aim b (roots ks at_.length)).2.2.2.2.2 names 0).toNat [])).map (mv (o ++ s7 (F5 names tv ks) o.length).length) else (o ++ s7 (F5 names tv ks) o.length) ++ [aim (aim b (roots ks at_.length)) (atL (at_ ++ A) (kids (aim b (roots ks at_.length))))]) = o ++ flat (.mk b (F5 names tv ks)) o.length:=by
        rw [h1,h2,if_neg hc,hk,hat,b5X b _ _ (by rw [G8,G8,a5W]),flat,List.append_assoc]
       simp only [hif]
       have hz:(((o ++ flat (.mk b (F5 names tv ks)) o.length).length:Nat):Int) - 1 = ((o.length + B9 (F5 names tv ks):Nat):Int):=by
        rw [length_append,D1,Tr.size]; omega
       rw [hz,List.append_assoc at_ A]
theorem a8V {names:List Str} {by_:List (List Nd)} {tv:Nat → Tr} (h:TvOk names by_ tv):∀ (ts:List Tr) (o:List Nd) (at_:List Int),P1 ts → o.length + 5000 * B9 ts ≤ 100000000 →
  ∃ A:List Int,A.length = B9 ts ∧ (roots ts at_.length).map (fun k => (at_ ++ A).getD k.toNat 0) = roots (F5 names tv ts) o.length ∧ ∀ rest,Y9 names by_ (s7 ts at_.length ++ rest) o at_ = Y9 names by_ rest (o ++ s7 (F5 names tv ts) o.length) (at_ ++ A)
 | [],o,at_,hv,hs => ⟨[],rfl,rfl,fun rest => by rw [s7,F5,s7,List.nil_append,List.append_nil,List.append_nil]⟩
 | t :: r,o,at_,hv,hs => by
   rw [P1] at hv
   rw [B9] at hs
   have hsz:=d0U h t
   have hsp:=t.size_pos
   obtain ⟨A,a1,a2,a3⟩:=b1e h t o at_ hv.1 (by omega)
   obtain ⟨B,b1,b2,b3⟩:=a8V h r (o ++ flat (a3Y names tv t) o.length) (at_ ++ A) hv.2 (by rw [length_append,D1]; omega)
   rw [length_append,a1] at b2 b3
   rw [length_append,D1] at b2 b3
   refine ⟨A ++ B,by rw [length_append,a1,b1,B9],?_,fun rest => ?_⟩
   · rw [roots,F5,roots,List.map_cons]
     have hsn:=(a3Y names tv t).size_pos
     congr 1
     · rw [b0H (show (((at_.length + t.size - 1:Nat):Int)).toNat = at_.length + (t.size - 1) by omega),c0s (by omega),a2]
     · rw [← b2]
       refine List.map_congr_left fun k _ => ?_
       rw [List.append_assoc]
   · rw [s7,List.append_assoc,a3,b3,F5,s7,List.append_assoc,List.append_assoc]
end
theorem c1I {e:List Nd} {names:List Str} {by_:List (List Nd)} (h:s8 (put e names by_) = true):norm (put e names by_) = put e names by_:=by
 have hc:s8 e = true ∧ names.length = by_.length ∧ by_.all s8 = true:=by
  unfold put at h
  split at h
  · assumption
  · simp [s8] at h
 have hp:put e names by_ = Y9 names by_ (norm e) [] []:=by unfold put; rw [if_pos hc]
 obtain ⟨t,t1,t2,t3,t4,t5,t6,t7⟩:=a4D hc.1
 have hn:=a0I hc.1 t1
 have htv:∀ k,∃ T:Tr,k < by_.length → norm (by_.getD k []) = flat T 0 ∧ Valid T ∧ T.op ≠ 28 ∧ T.size ≤ 5000:=fun k => by
  by_cases hk:k < by_.length
  · have hm:s8 (by_.getD k []) = true:=by
     have:=List.all_eq_true.1 hc.2.2 by_[k] (List.getElem_mem hk)
     rw [List.getD_eq_getElem?_getD,List.getElem?_eq_getElem hk]; exact this
    obtain ⟨T,T1,T2,T3,T4,T5,T6,T7⟩:=a4D hm
    exact ⟨T,fun _ => ⟨a0I hm T1,T2,T4,T7⟩⟩
  · exact ⟨t,fun g => absurd g hk⟩
 have hok:TvOk names by_ (fun k => Classical.choose (htv k)):=⟨hc.2.1,fun k hk => Classical.choose_spec (htv k) hk⟩
 obtain ⟨A,a1,a2,a3⟩:=b1e hok t [] [] t2 (by simp; omega)
 have:=a3 []
 rw [List.append_nil,length_nil,← hn,List.nil_append,← hp,Y9,length_nil] at this
 rw [this] at h ⊢
 exact a1j (a9C hok t t2) h
end Go.Proofs.YtelpjfihadaomaaGreatDoor.R
