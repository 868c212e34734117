import Derived.Test.YtadonikkibahnaaGreatCauA
import Derived.Test.YtadonikkibahnaaGreatCauB
import Derived.Test.YtadonikkibahnaaGreatSchX
open Option (bind_some)
namespace Go.Proofs.YtadonikkibahnaaGreat.R
open Go Go.Bm Go.Proofs
set_option linter.unusedVariables false
set_option linter.unusedSimpArgs false
set_option maxRecDepth 4000
def rowF {α:Type} (n:Nat) (f:Nat → α):List α:=(List.range n).map f
section
variable {α:Type}
theorem rowF_len (n:Nat) (f:Nat → α):(rowF n f).length = n:=by simp [rowF]
theorem rowF_get {n i:Nat} (f:Nat → α) (h:i < n):nth (rowF n f) i = some (f i):=by
 rw [nth_getElem?,rowF,List.getElem?_map,List.getElem?_range h]; rfl
theorem rowF_congr {n:Nat} {f g:Nat → α} (h:∀ i,i < n → f i = g i):rowF n f = rowF n g:=List.map_congr_left fun i hi => h i (List.mem_range.1 hi)
theorem rowF_set {n i:Nat} (f:Nat → α) (y:α):setNth (rowF n f) i y = rowF n (fun j => if j = i then y else f j):=by
 rw [setNth_set]
 refine List.ext_getElem? fun k => ?_
 rw [List.getElem?_set,rowF,rowF,List.getElem?_map,List.getElem?_map,List.length_map,List.length_range]
 by_cases e:i = k
 · subst e
   rw [if_pos rfl]
   by_cases h:i < n
   · rw [if_pos h,List.getElem?_range h]; simp
   · rw [if_neg h,List.getElem?_eq_none (by simp; omega)]; rfl
 · rw [if_neg e]
   by_cases h:k < n
   · rw [List.getElem?_range h]; simp [Ne.symm e]
   · rw [List.getElem?_eq_none (by simp; omega)]; rfl
theorem rowF_rep (n:Nat) (x:α):List.replicate n x = rowF n fun _ => x:=by
 refine List.ext_getElem? fun k => ?_
 rw [rowF,List.getElem?_map,List.getElem?_replicate]
 by_cases h:k < n
 · rw [if_pos h,List.getElem?_range h]; rfl
 · rw [if_neg h,List.getElem?_eq_none (by simp; omega)]; rfl
end
theorem ints_len (l:List Nat):(ints l).length = l.length:=by simp [ints]
theorem ints_app (l m:List Nat):ints (l ++ m) = ints l ++ ints m:=by simp [ints]
theorem ints_cons (k:Nat) (l:List Nat):ints (k :: l) = (k:Int) :: ints l:=rfl
def HeapOf (h:List Int) (S:Nat → Prop):Prop:=HeapP h ∧ h.Nodup ∧ ∀ x,x ∈ h ↔ ∃ j:Nat,x = (j:Int) ∧ S j
theorem heapOf_congr {h:List Int} {S S':Nat → Prop} (H:HeapOf h S) (e:∀ j,S j ↔ S' j):HeapOf h S' :=
 ⟨H.1,H.2.1,fun x => (H.2.2 x).trans ⟨fun ⟨j,a,b⟩ => ⟨j,a,(e j).1 b⟩,fun ⟨j,a,b⟩ => ⟨j,a,(e j).2 b⟩⟩⟩
theorem heapOf_nil {S:Nat → Prop} (h:∀ j,¬ S j):HeapOf [] S:=⟨fun i _ hi => absurd hi (by simp),List.nodup_nil,fun x => ⟨fun a => absurd a (by simp),fun ⟨j,_,b⟩ => absurd b (h j)⟩⟩
theorem heapOf_len {h:List Int} {S:Nat → Prop} {n:Nat} (H:HeapOf h S) (hS:∀ j,S j → j < n):h.length ≤ n:=by
 have:=sub_len (m:=ints (List.range n)) H.2.1 (fun x hx => by
  obtain ⟨j,rfl,hj⟩:=(H.2.2 x).1 hx
  exact List.mem_map.2 ⟨j,List.mem_range.2 (hS j hj),rfl⟩)
 rw [ints_len,List.length_range] at this; exact this
theorem heapOf_push {h:List Int} {S:Nat → Prop} {k:Nat} (H:HeapOf h S) (hk:¬ S k) (hl:h.length < 1000000):∃ h',c64 T.rf h (k:Nat) = some h' ∧ HeapOf h' (fun j => S j ∨ j = k):=by
 obtain ⟨h',h1,h2,h3⟩:=push_spec (k:Int) H.1 hl
 refine ⟨h',h1,h2,h3.nodup_iff.2 (List.nodup_cons.2 ⟨fun x => ?_,H.2.1⟩),fun x => ?_⟩
 · obtain ⟨j,e,hj⟩:=(H.2.2 _).1 x
   exact hk ((Int.ofNat_inj.1 e) ▸ hj)
 · rw [h3.mem_iff,List.mem_cons,H.2.2]
   constructor
   · rintro (e | ⟨j,e,hj⟩)
     · exact ⟨k,e,Or.inr rfl⟩
     · exact ⟨j,e,Or.inl hj⟩
   · rintro ⟨j,e,hj | hj⟩
     · exact Or.inr ⟨j,e,hj⟩
     · exact Or.inl (hj ▸ e)
theorem heapOf_pop {h:List Int} {S:Nat → Prop} (H:HeapOf h S) (h0:h ≠ []) (hl:h.length < 1000000):∃ h' i,c70 T.rf h = some (h',((i:Nat):Int)) ∧ S i ∧ (∀ j,S j → i ≤ j) ∧ HeapOf h' (fun j => S j ∧ j ≠ i):=by
 obtain ⟨h',h1,h2,h3,h4⟩:=pop_spec H.1 h0 hl
 have hm:at0 h 0 ∈ h:=h3.mem_iff.2 List.mem_cons_self
 obtain ⟨i,hi,hs⟩:=(H.2.2 _).1 hm
 have hn:=h3.nodup_iff.1 H.2.1
 rw [List.nodup_cons] at hn
 refine ⟨h',i,by rw [← hi]; exact h1,hs,fun j hj => ?_,h2,hn.2,fun x => ?_⟩
 · have:=h4 _ ((H.2.2 _).2 ⟨j,rfl,hj⟩)
   omega
 · have hx:=h3.mem_iff (a:=x)
   rw [H.2.2,List.mem_cons] at hx
   constructor
   · intro hxm
     obtain ⟨j,e,hj⟩:=hx.2 (Or.inr hxm)
     exact ⟨j,e,hj,fun e2 => hn.1 (by rw [hi,← e2,← e]; exact hxm)⟩
   · rintro ⟨j,e,hj,hne⟩
     rcases hx.1 ⟨j,e,hj⟩ with e2 | e2
     · exact absurd (Int.ofNat_inj.1 (by rw [← e,e2,hi])) hne
     · exact e2
def wF (D:Nat → Nat → Bool) (n:Nat) (V:List Nat) (i:Nat) (pre:List Nat) (k:Nat):Int:=if k ∈ pre then (waitsN D n (V ++ [i]) k:Nat) else (waitsN D n V k:Nat)
theorem free_loop {D:Nat → Nat → Bool} {n:Nat} {V:List Nat} {i:Nat} (hV:Val D n V) (hr:rdy D n V i = true) (hi:i < n) (hn:n ≤ 1000) :
  ∀ (suf pre:List Nat) (h:List Int),(pre ++ suf).Nodup → (∀ k ∈ suf,k < n ∧ D k i = true) → (∀ k ∈ pre,k < n) → pre.length + suf.length ≤ 1000 →
   HeapOf h (fun j => (j < n ∧ rdy D n V j = true ∧ j ≠ i) ∨ (j ∈ pre ∧ waitsN D n (V ++ [i]) j = 0)) →
   ∃ h',k206 T.rb (rowF n (wF D n V i pre)) h (ints pre ++ ints suf) ((ints pre ++ ints suf).length:Nat) ((ints pre).length:Nat) = some (rowF n (wF D n V i (pre ++ suf)),h')
    ∧ HeapOf h' (fun j => (j < n ∧ rdy D n V j = true ∧ j ≠ i) ∨ (j ∈ pre ++ suf ∧ waitsN D n (V ++ [i]) j = 0))
 | [],pre,h,hnd,hs,hp,hlen,H => by
   refine ⟨h,ob206 ?_,by rw [List.append_nil]; exact H⟩
   rw [show ints [] = [] from rfl,List.append_nil pre]
   simp only [b206,lt_end,lt_self,List.append_nil,cond_false]
 | k :: suf,pre,h,hnd,hs,hp,hlen,H => by
   have hk:=hs k List.mem_cons_self
   simp only [List.length_cons] at hlen
   have hkp:k ∉ pre:=fun x => by
    rw [List.nodup_append] at hnd
    exact hnd.2.2 k x k List.mem_cons_self rfl
   have hvn:=val_next hV hr hi k hk.1 hk.2
   have hw:=waits_step (D:=D) hi (rdy_iff.1 hr).1 k
   rw [if_pos hk.2] at hw
   have hkw:waitsN D n V k ≤ n:=by have:=List.length_filter_le (fun j => D k j && !(decide (j ∈ V))) (List.range n); rw [List.length_range] at this; exact this
   have hval:IntKind.i64.wrap ((waitsN D n V k:Nat) - 1) = ((waitsN D n (V ++ [i]) k:Nat):Int):=by rw [wr (by omega)]; omega
   have hget:wF D n V i pre k = (waitsN D n V k:Nat):=if_neg hkp
   have hset:setNth (rowF n (wF D n V i pre)) k ((waitsN D n (V ++ [i]) k:Nat):Int) = rowF n (wF D n V i (pre ++ [k])):=by
    rw [rowF_set]
    refine rowF_congr fun j _ => ?_
    by_cases e:j = k
    · subst e; simp [wF]
    · simp [wF,e]
   have hget2:wF D n V i (pre ++ [k]) k = (waitsN D n (V ++ [i]) k:Nat):=if_pos (by simp)
   have e1:ints (pre ++ [k]) ++ ints suf = ints pre ++ (k:Int) :: ints suf:=by rw [ints_app]; simp [ints]
   have e2:pre ++ [k] ++ suf = pre ++ k :: suf:=by simp
   have e3:ints pre ++ [(k:Int)] = ints (pre ++ [k]):=by rw [ints_app]; rfl
   have hhl:h.length ≤ n:=heapOf_len H fun j hj => by
    rcases hj with a | a
    · exact a.1
    · exact hp j a.1
   have hpl:(ints pre).length < 4611686018427387904:=by rw [ints_len]; omega
   by_cases hz:waitsN D n (V ++ [i]) k = 0
   · obtain ⟨h2,hP,H2⟩:=heapOf_push (k:=k) H (fun x => by
      rcases x with a | a
      · rw [hvn.2.2] at a; exact absurd a.2.1 (by decide)
      · exact hkp a.1) (by omega)
     obtain ⟨h3,hrun,H3⟩:=free_loop hV hr hi hn suf (pre ++ [k]) h2 (by rw [e2]; exact hnd) (fun j hj => hs j (List.mem_cons_of_mem _ hj)) (fun j hj => by
      rcases List.mem_append.1 hj with a | a
      · exact hp j a
      · rw [List.mem_singleton.1 a]; exact hk.1) (by simp; omega) (heapOf_congr H2 fun j => by
        rw [List.mem_append,List.mem_singleton]
        constructor
        · rintro ((a | a) | a)
          · exact Or.inl a
          · exact Or.inr ⟨Or.inl a.1,a.2⟩
          · exact Or.inr ⟨Or.inr a,a ▸ hz⟩
        · rintro (a | ⟨a | a,b⟩)
          · exact Or.inl (Or.inl a)
          · exact Or.inl (Or.inr ⟨a,b⟩)
          · exact Or.inr a)
     rw [e1,e2] at hrun
     rw [e2] at H3
     refine ⟨h3,ob206 ?_,H3⟩
     rw [ints_cons]
     simp only [b206,lt_mid,inb_mid,nth_mid,cond_true,bind_some]
     simp only [cond_true,bind_some,inb_nat,rowF_len,dt hk.1,Int.toNat_natCast,rowF_get _ hk.1,blt_t hk.1,hget,hval,hset,hget2,bt (show ((waitsN D n (V ++ [i]) k:Nat):Int) = 0 by omega),hP,next_mid (ints pre) (k:Int) hpl,e3]
     exact hrun
   · obtain ⟨h3,hrun,H3⟩:=free_loop hV hr hi hn suf (pre ++ [k]) h (by rw [e2]; exact hnd) (fun j hj => hs j (List.mem_cons_of_mem _ hj)) (fun j hj => by
      rcases List.mem_append.1 hj with a | a
      · exact hp j a
      · rw [List.mem_singleton.1 a]; exact hk.1) (by simp; omega) (heapOf_congr H fun j => by
        rw [List.mem_append,List.mem_singleton]
        constructor
        · rintro (a | a)
          · exact Or.inl a
          · exact Or.inr ⟨Or.inl a.1,a.2⟩
        · rintro (a | ⟨a | a,b⟩)
          · exact Or.inl a
          · exact Or.inr ⟨a,b⟩
          · exact absurd (a ▸ b) hz)
     rw [e1,e2] at hrun
     rw [e2] at H3
     refine ⟨h3,ob206 ?_,H3⟩
     rw [ints_cons]
     simp only [b206,lt_mid,inb_mid,nth_mid,cond_true,bind_some]
     simp only [cond_true,cond_false,bind_some,inb_nat,rowF_len,dt hk.1,Int.toNat_natCast,rowF_get _ hk.1,blt_t hk.1,hget,hval,hset,hget2,bf (show ((waitsN D n (V ++ [i]) k:Nat):Int) ≠ 0 by omega),next_mid (ints pre) (k:Int) hpl,e3]
     exact hrun
theorem main_loop {D:Nat → Nat → Bool} {n:Nat} (hn:n ≤ 1000):∀ (f:Nat) (V:List Nat) (h:List Int),Val D n V → n ≤ V.length + f → HeapOf h (fun j => j < n ∧ rdy D n V j = true) →
  ∃ w h',k205 T.rb (rowF n fun k => ((waitsN D n V k:Nat):Int)) (ints V) h (rowF n fun k => ints ((List.range n).filter fun i => D i k)) = some (w,ints (greedy D n f V),h'):=by
 intro f V h hV hf H
 have hhl:h.length ≤ n:=heapOf_len H fun j hj => hj.1
 have hvl:=val_len hV
 have none_stop:nextO D n V = none → ∃ w h',k205 T.rb (rowF n fun k => ((waitsN D n V k:Nat):Int)) (ints V) h (rowF n fun k => ints ((List.range n).filter fun i => D i k)) = some (w,ints V,h'):=fun hno => by
  have he:h = []:=List.eq_nil_iff_forall_not_mem.2 fun x hx => by
   obtain ⟨j,_,hj,hr⟩:=(H.2.2 x).1 hx
   rw [next_none.1 hno j hj] at hr; exact absurd hr (by decide)
  subst he
  exact ⟨_,_,ob205 (by simp only [b205,Len_eq,bind_some]; rfl)⟩
 match f,hf with
 | 0,hf => rw [greedy]; exact none_stop (next_full hV (by omega))
 | f + 1,hf =>
   rw [greedy]
   cases hnx:nextO D n V with
   | none => exact none_stop hnx
   | some i =>
     have hs:=next_spec.1 hnx
     have hne:h ≠ []:=fun e => by
      have:=(H.2.2 ((i:Nat):Int)).2 ⟨i,rfl,hs.2.1,hs.1⟩
      rw [e] at this; simp at this
     obtain ⟨h1,i',hP,hS,hmin,H1⟩:=heapOf_pop H hne (by omega)
     have hii:i' = i:=by
      have a:=hmin i ⟨hs.2.1,hs.1⟩
      rcases Nat.lt_or_ge i' i with b | b
      · rw [hs.2.2 i' b] at hS; exact absurd hS.2 (by decide)
      · omega
     subst hii
     have hpos:=List.length_pos_iff.2 hne
     have hfl:((List.range n).filter fun k => D k i').length ≤ n:=by have:=List.length_filter_le (fun k => D k i') (List.range n); rw [List.length_range] at this; exact this
     obtain ⟨h2,hrun,H2⟩:=free_loop hV hs.1 hs.2.1 hn ((List.range n).filter fun k => D k i') [] h1 (by rw [List.nil_append]; exact List.Nodup.sublist List.filter_sublist List.nodup_range) (fun k hk => by
      rw [List.mem_filter,List.mem_range] at hk; exact hk) (fun k hk => by simp at hk) (by simp only [List.length_nil]; omega) (heapOf_congr H1 fun j => by
       constructor
       · rintro ⟨⟨a,b⟩,c⟩; exact Or.inl ⟨a,b,c⟩
       · rintro (⟨a,b,c⟩ | ⟨a,_⟩)
         · exact ⟨⟨a,b⟩,c⟩
         · simp at a)
     rw [List.nil_append] at hrun H2
     rw [show ints [] = [] from rfl,List.nil_append,List.length_nil,show ((0:Nat):Int) = (0:Int) from rfl] at hrun
     have hw0:(rowF n fun k => ((waitsN D n V k:Nat):Int)) = rowF n (wF D n V i' []):=rowF_congr fun k _ => by simp [wF]
     have hw1:rowF n (wF D n V i' ((List.range n).filter fun k => D k i')) = rowF n fun k => ((waitsN D n (V ++ [i']) k:Nat):Int):=rowF_congr fun k hk => by
      rw [wF]
      by_cases hd:D k i' = true
      · rw [if_pos (List.mem_filter.2 ⟨List.mem_range.2 hk,hd⟩)]
      · rw [if_neg (fun x:k ∈ (List.range n).filter (fun k => D k i') => hd (List.mem_filter.1 x).2)]
        have:=waits_step (D:=D) hs.2.1 (rdy_iff.1 hs.1).1 k
        rw [if_neg hd] at this; omega
     obtain ⟨w,h3,hrun2⟩:=main_loop hn f (V ++ [i']) h2 (Val.snoc hV hs.2.1 hs.1) (by simp; omega) (heapOf_congr H2 fun j => by
      rw [List.mem_filter,List.mem_range]
      constructor
      · rintro (⟨a,b,c⟩ | ⟨⟨a,b⟩,c⟩)
        · have b2:=rdy_iff.1 b
          exact ⟨a,rdy_iff.2 ⟨by simp [b2.1,c],fun k hk hd => List.mem_append_left _ (b2.2 k hk hd)⟩⟩
        · have v:=val_next hV hs.1 hs.2.1 j a b
          exact ⟨a,rdy_iff.2 ⟨by simp [v.1,v.2.1],waitsN_zero.1 c⟩⟩
      · rintro ⟨a,b⟩
        have b2:=rdy_iff.1 b
        have b3:j ∉ V ∧ j ≠ i':=by simpa using b2.1
        by_cases hd:D j i' = true
        · exact Or.inr ⟨⟨a,hd⟩,waitsN_zero.2 b2.2⟩
        · refine Or.inl ⟨a,rdy_iff.2 ⟨b3.1,fun k hk hdk => ?_⟩,b3.2⟩
          rcases List.mem_append.1 (b2.2 k hk hdk) with e | e
          · exact e
          · rw [List.mem_singleton.1 e] at hdk; exact absurd hdk hd)
     refine ⟨w,h3,ob205 ?_⟩
     have hfr:nth (rowF n fun k => ints ((List.range n).filter fun i => D i k)) i' = some (ints ((List.range n).filter fun k => D k i')):=rowF_get _ hs.2.1
     simp only [b205,Len_eq,bind_some,dt (show ((h.length:Nat):Int) > 0 by omega),cond_true,hP,ints_len,ble_most (show V.length + 1 ≤ 274877906944 by omega),Bool.and_true,inb_nat,rowF_len,dt hs.2.1,Int.toNat_natCast,hfr]
     rw [hw0]
     rw [ints_len] at hrun
     rw [hrun,bind_some,hw1,show ints V ++ [((i':Nat):Int)] = ints (V ++ [i']) from by rw [ints_app]; rfl]
     exact hrun2
end Go.Proofs.YtadonikkibahnaaGreat.R
