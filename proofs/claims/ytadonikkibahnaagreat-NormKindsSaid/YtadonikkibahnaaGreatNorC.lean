import Derived.Test.YtadonikkibahnaaGreatNorB
open Option (bind_some)
namespace Go.Proofs.YtadonikkibahnaaGreat.R
open Go Go.Bm Go.Proofs
set_option linter.unusedVariables false
set_option linter.unusedSimpArgs false
set_option maxRecDepth 4000
theorem back_eq (e:List Nd):c55 T.rf e = some e:=or55 rfl
theorem tail19_eq (a:Int) (eqs:List Eqn) (at_:List Int) (s:Sm) (b:Bool) (c:Int) (n:List UInt8) (t:Int) (e:List Nd) (o:List Int) (us:List Unit) (M:List (List UInt8 × Int)) (r:List Int) (L:List Bool) (v:List Int) (U:List Unit) (i:Int) {N:List (List UInt8)}
  (hM:Knows M N) (hL:L.length = s.2.2.length) (hU:U.length = s.2.2.length) (he:s.2.2.length ≤ 1000000) (h1:eqs.length ≤ 1000000) (h2:at_.length ≤ 1000000) :
  if s.2.2 = [] then k247 T.rb a eqs at_ s b c n t e o us M r L v U i = some (.inl (a,eqs,at_,s,b,c,n,t,e,o,us,M,r,L,v,U))
  else if okE N s.2.2 = true then ∃ L' ,k247 T.rb a eqs at_ s b c n t e o us M r L v U i = some (.inr (.inr (a,s,b,c,n,t,e,o,us,M,r,L',v,U,eqs ++ [(s.1,s.2.2)],at_ ++ [i])))
  else ∃ w,k247 T.rb a eqs at_ s b c n t e o us M r L v U i = some (.inr (.inl w)) ∧ w.1 = 1:=by
 by_cases hne:s.2.2 = []
 · rw [if_pos hne]
   exact ob247 (by simp only [b247,bt (show ((s.2.2.length:Nat):Int) = 0 by rw [hne]; rfl),cond_true])
 rw [if_neg hne]
 have hpos:0 < s.2.2.length:=List.length_pos_iff.2 hne
 have hz:(((s.2.2.length:Nat):Int) == 0) = false:=bf (by omega)
 unfold okE
 cases hm:mayB s.2.2
 · rw [Bool.false_and,if_neg (by decide)]
   exact ⟨(1,eqs,at_,s,b,c,n,t,e,o,us,M,r,L,v,U),ob247 (by simp only [b247,hz,cond_false,May_eq he,hm,bind_some,Bool.not_false,cond_true]),rfl⟩
 rw [Bool.true_and]
 have hA:Ahead s.2.2:=(may_P hm).ahead
 obtain ⟨x,hx⟩:∃ x,nth s.2.2 (s.2.2.length - 1) = some x:=⟨_,nth_t (by omega)⟩
 have hb:=back_loop s.2.2 b c n t e o us M r v U a hM hU hA he (s.2.2.length - 1) x L hL hx
 rw [show s.2.2.length - 1 + 1 = s.2.2.length by omega,List.take_length] at hb
 have hq:Nat.beq s.2.2.length 0 = false:=by cases hh:s.2.2.length with | zero => omega | succ k => rfl
 cases hall:s.2.2.all (okN N)
 · rw [hall,if_neg (by decide)] at hb
   obtain ⟨w,hw,hw1⟩:=hb
   rw [if_neg (by decide)]
   exact ⟨(w.1,eqs,at_,s,w.2.2),ob247 (by simp only [b247,hz,cond_false,May_eq he,hm,bind_some,Bool.not_true,back_eq,ble_most (show s.2.2.length ≤ 274877906944 by omega),cond_true,hq,hx,hw]),hw1⟩
 · rw [hall,if_pos rfl] at hb
   obtain ⟨L',hl',hw⟩:=hb
   rw [if_pos rfl]
   exact ⟨L',ob247 (by simp only [b247,hz,cond_false,May_eq he,hm,bind_some,Bool.not_true,back_eq,ble_most (show s.2.2.length ≤ 274877906944 by omega),cond_true,hq,hx,hw,ble_most (show eqs.length + 1 ≤ 274877906944 by omega),ble_most (show at_.length + 1 ≤ 274877906944 by omega),Bool.and_true])⟩
theorem strm_loop (l:List Sm) {N:List (List UInt8)} (hl:l.length ≤ 100000):∀ (suf pre:List Sm) (a:Int) (eqs:List Eqn) (at_:List Int) (b:Bool) (c:Int) (us:List Unit) (M:List (List UInt8 × Int)) (r:List Int),l = pre ++ suf → Knows M N →
  (∀ s ∈ suf,s.2.2.length ≤ 1000000) → eqs.length + suf.length ≤ 1000000 → at_.length + suf.length ≤ 1000000 → us.length + suf.length ≤ 1000000 →
  if suf.all (okS N) = true then ∃ at' us',at'.length = at_.length + (eqsS suf).length ∧ k245 T.rb a eqs at_ b c us M r l (l.length:Nat) (pre.length:Nat) = some (.inr (a,b,c,M,r,eqs ++ eqsS suf,at',us'))
  else ∃ w,k245 T.rb a eqs at_ b c us M r l (l.length:Nat) (pre.length:Nat) = some (.inl w) ∧ w.1 = 1
 | [],pre,a,eqs,at_,b,c,us,M,r,he,hM,hs,h1,h2,h3 => by
   rw [List.append_nil] at he
   subst he
   rw [List.all_nil,if_pos rfl]
   exact ⟨at_,us,rfl,ob245 (by simp only [b245,lt_self,cond_false]; rw [show eqsS [] = [] from rfl,List.append_nil])⟩
 | s :: suf,pre,a,eqs,at_,b,c,us,M,r,he,hM,hs,h1,h2,h3 => by
   simp only [List.length_cons] at h1 h2 h3
   have hll:l.length = pre.length + (suf.length + 1):=by rw [he]; simp
   have hlt:decide (((pre.length:Nat):Int) < ((l.length:Nat):Int)) = true:=dt (by omega)
   have hin:inb ((pre.length:Nat):Int) l.length = true:=inb_t (by omega) (by omega)
   have hnt:nth l ((pre.length:Nat):Int).toNat = some s:=by rw [he]; exact nth_mid pre s suf
   have hnx:IntKind.i64.wrap (((pre.length:Nat):Int) + 1) = (((pre ++ [s]).length:Nat):Int):=next_mid pre s (by omega)
   have hsl:=hs s (List.mem_cons_self ..)
   have g1:inb' ((s.2.2.length:Nat):Int) most = true:=by rw [inb'_nat]; exact dt (by show s.2.2.length ≤ 274877906944; omega)
   have g2:inb' ((s.2.2.length:Nat):Int) s.2.2.length = true:=by rw [inb'_nat]; exact dt (Nat.le_refl _)
   obtain ⟨q,hq,hq2⟩:∃ q:Nat,(if (1:Int) > ((s.2.2.length:Nat):Int) then (1:Int) else ((s.2.2.length:Nat):Int)) = ((q:Nat):Int) ∧ q ≤ 1000000:=by
    by_cases hg:(1:Int) > ((s.2.2.length:Nat):Int)
    · exact ⟨1,by rw [if_pos hg]; rfl,by omega⟩
    · exact ⟨s.2.2.length,by rw [if_neg hg],hsl⟩
   have g3:inb' ((q:Nat):Int) most = true:=by rw [inb'_nat]; exact dt (by show q ≤ 274877906944; omega)
   have g4:inb' ((q:Nat):Int) ((q:Nat):Int).toNat = true:=by rw [Int.toNat_natCast,inb'_nat]; exact dt (Nat.le_refl _)
   have h19:=tail19_eq a eqs at_ s b c s.1 s.2.1 s.2.2 [] (us ++ [()]) M r (List.replicate s.2.2.length false) (List.replicate ((q:Nat):Int).toNat (0:Int)) (List.replicate s.2.2.length ()) ((pre.length:Nat):Int) hM (by simp) (by simp) hsl (by omega) (by omega)
   have hub:=ble_most (show us.length + 1 ≤ 274877906944 by omega)
   rw [List.all_cons,eqsS_cons]
   unfold okS
   by_cases hne:s.2.2 = []
   · rw [if_pos hne] at h19
     rw [dt hne,Bool.true_or,Bool.true_and,if_pos hne]
     have h18:=ob246 (d1:=a) (d2:=eqs) (d3:=at_) (d4:=s) (d5:=b) (d6:=c) (d7:=s.1) (d8:=s.2.1) (d9:=s.2.2) (d10:=[]) (d11:=us) (d12:=M) (d13:=r) (d14:=List.replicate s.2.2.length false) (d15:=List.replicate ((q:Nat):Int).toNat (0:Int)) (d16:=List.replicate s.2.2.length ()) (d17:=((pre.length:Nat):Int)) (by
      simp only [b246,hub,Bool.and_true,cond_true,h19,bind_some]; rfl)
     have ih:=strm_loop l hl suf (pre ++ [s]) a eqs at_ b c (us ++ [()]) M r (by simp [he]) hM (fun x hx => hs x (List.mem_cons_of_mem _ hx)) (by omega) (by omega) (by simp; omega)
     unfold okS at ih
     split at ih
     · rename_i hall
       obtain ⟨at',us',hA,hr⟩:=ih
       rw [if_pos hall]
       refine ⟨at',us',hA,ob245 ?_⟩
       simp only [b245,hlt,hin,hnt,cond_true,bind_some,g1,g2,hq,g3,g4,h18,hnx,hr]
     · rename_i hall
       obtain ⟨w,hr,hw⟩:=ih
       rw [if_neg hall]
       refine ⟨w,ob245 ?_,hw⟩
       simp only [b245,hlt,hin,hnt,cond_true,bind_some,g1,g2,hq,g3,g4,h18,hnx,hr]
   · rw [if_neg hne] at h19
     rw [df hne,Bool.false_or,if_neg hne]
     cases hok:okE N s.2.2
     · rw [hok,if_neg (by decide)] at h19
       obtain ⟨w,h19,hw⟩:=h19
       rw [Bool.false_and,if_neg (by decide)]
       have h18:=ob246 (d1:=a) (d2:=eqs) (d3:=at_) (d4:=s) (d5:=b) (d6:=c) (d7:=s.1) (d8:=s.2.1) (d9:=s.2.2) (d10:=[]) (d11:=us) (d12:=M) (d13:=r) (d14:=List.replicate s.2.2.length false) (d15:=List.replicate ((q:Nat):Int).toNat (0:Int)) (d16:=List.replicate s.2.2.length ()) (d17:=((pre.length:Nat):Int)) (by
        simp only [b246,hub,Bool.and_true,cond_true,h19,bind_some]; rfl)
       refine ⟨_,ob245 (by
        simp only [b245,hlt,hin,hnt,cond_true,bind_some,g1,g2,hq,g3,g4,h18]; rfl),hw⟩
     · rw [hok,if_pos rfl] at h19
       obtain ⟨L',h19⟩:=h19
       rw [Bool.true_and]
       have h18:=ob246 (d1:=a) (d2:=eqs) (d3:=at_) (d4:=s) (d5:=b) (d6:=c) (d7:=s.1) (d8:=s.2.1) (d9:=s.2.2) (d10:=[]) (d11:=us) (d12:=M) (d13:=r) (d14:=List.replicate s.2.2.length false) (d15:=List.replicate ((q:Nat):Int).toNat (0:Int)) (d16:=List.replicate s.2.2.length ()) (d17:=((pre.length:Nat):Int)) (by
        simp only [b246,hub,Bool.and_true,cond_true,h19,bind_some]; rfl)
       have ih:=strm_loop l hl suf (pre ++ [s]) a (eqs ++ [(s.1,s.2.2)]) (at_ ++ [((pre.length:Nat):Int)]) b c (us ++ [()]) M r (by simp [he]) hM (fun x hx => hs x (List.mem_cons_of_mem _ hx)) (by simp; omega) (by simp; omega) (by simp; omega)
       unfold okS at ih
       split at ih
       · rename_i hall
         obtain ⟨at',us',hA,hr⟩:=ih
         rw [if_pos hall]
         refine ⟨at',us',by simp at hA ⊢; omega,ob245 ?_⟩
         simp only [b245,hlt,hin,hnt,cond_true,bind_some,g1,g2,hq,g3,g4,h18,hnx,hr,List.append_assoc,List.singleton_append]
       · rename_i hall
         obtain ⟨w,hr,hw⟩:=ih
         rw [if_neg hall]
         refine ⟨w,ob245 ?_,hw⟩
         simp only [b245,hlt,hin,hnt,cond_true,bind_some,g1,g2,hq,g3,g4,h18,hnx,hr]
theorem at_loop (b:Bool) (c:Int) (us:List Unit) (M:List (List UInt8 × Int)) (at_:List Int):∀ (suf pre:List Nat) (o:List Int),(∀ k ∈ suf,k < at_.length) → o.length + suf.length ≤ 1000000 → pre.length + suf.length ≤ 1000000 →
  ∃ o',k252 T.rb at_ (ints pre ++ ints suf) b c us M o ((ints pre ++ ints suf).length:Nat) ((ints pre).length:Nat) = some (at_,ints pre ++ ints suf,b,c,us,M,o')
 | [],pre,o,hs,h1,h2 => ⟨o,ob252 (by
   rw [show ints [] = [] from rfl]
   simp only [b252,lt_end,lt_self,List.append_nil,cond_false])⟩
 | k :: suf,pre,o,hs,h1,h2 => by
   simp only [List.length_cons] at h1 h2
   have hk:=hs k (List.mem_cons_self ..)
   obtain ⟨x,hx⟩:∃ x,nth at_ ((k:Nat):Int).toNat = some x:=⟨_,by rw [Int.toNat_natCast]; exact nth_t hk⟩
   obtain ⟨o',ih⟩:=at_loop b c us M at_ suf (pre ++ [k]) (o ++ [x]) (fun y hy => hs y (List.mem_cons_of_mem _ hy)) (by simp; omega) (by simp; omega)
   have hc:ints (pre ++ [k]) ++ ints suf = ints pre ++ ((k:Nat):Int) :: ints suf:=by rw [ints_app,List.append_assoc]; rfl
   have hl2:(ints (pre ++ [k])).length = (ints pre ++ [((k:Nat):Int)]).length:=by rw [ints_app]; rfl
   rw [hc,hl2] at ih
   rw [ints_cons]
   refine ⟨o',ob252 ?_⟩
   simp only [b252,lt_mid,inb_mid,nth_mid,cond_true,bind_some,inb_t (show (0:Int) ≤ ((k:Nat):Int) by omega) (show ((k:Nat):Int) < at_.length by omega),hx,ble_most (show o.length + 1 ≤ 274877906944 by omega),Bool.and_true,next_mid (ints pre) ((k:Nat):Int) (by rw [ints_len]; omega),ih]
theorem order_ints (l:List Eqn):∃ V:List Nat,(orderL l).1 = ints V ∧ (∀ k ∈ V,k < l.length) ∧ V.length ≤ l.length:=by
 unfold orderL ordO
 have hv:Val (DL l) l.length (greedy (DL l) l.length l.length []):=greedy_val _ _ Val.nil
 by_cases h:(greedy (DL l) l.length l.length []).length < l.length
 · rw [if_pos h]; exact ⟨[],rfl,by simp,by simp⟩
 · rw [if_neg h]; exact ⟨_,rfl,val_lt hv,val_len hv⟩
theorem begin_eq {l:List Sm} (hl:l.length ≤ 1000) (hs:∀ s ∈ l,s.2.2.length ≤ 1000000) :
  if okL l = true then ∃ b c us M o,c46 T.rf l = some (.inr (b,c,us,M,o,(orderL (eqsS l)).2)) else c46 T.rf l = some (.inl 1):=by
 have hq:=eqsS_len l
 obtain ⟨z,h0,hz⟩:=num_loop 0 true 0 [] [] l [] [] (by simp; omega) knows_nil
 rw [List.nil_append,List.length_nil,show ((0:Nat):Int) = (0:Int) from rfl] at h0
 rw [List.nil_append] at hz
 have h4:decide (((l.length:Nat):Int) > 4000) = false:=df (by omega)
 unfold okL
 by_cases hn:nodR [] l = true
 · rw [show nmS [] = [] from rfl,if_pos hn] at hz
   obtain ⟨M',rfl,hM⟩:=hz
   rw [hn,Bool.true_and]
   have h2:=strm_loop l (by omega) l [] 0 [] [] true 0 [] M' [] rfl hM hs (by simp; omega) (by simp; omega) (by simp; omega)
   simp only [List.length_nil,Nat.zero_add] at h2
   rw [show ((0:Nat):Int) = (0:Int) from rfl] at h2
   split at h2
   · rename_i hall
     obtain ⟨at',us',hA,h2⟩:=h2
     rw [List.nil_append] at h2
     rw [if_pos hall]
     obtain ⟨V,hV,hV2,hV3⟩:=order_ints (eqsS l)
     obtain ⟨o',h8⟩:=at_loop true 0 us' M' at' V [] [] (fun k hk => by have:=hV2 k hk; omega) (by simp; omega) (by simp; omega)
     rw [show ints [] = [] from rfl,List.nil_append,List.length_nil,show ((0:Nat):Int) = (0:Int) from rfl] at h8
     refine ⟨true,0,us',M',o',or46 ?_⟩
     simp only [r46,h4,cond_false,h0,bind_some,h2]
     rw [Order_eq (by omega) (fun q hq' => by obtain ⟨s,hs1,_,rfl⟩:=eqsS_mem hq'; exact hs s hs1),bind_some,hV,h8,bind_some]
   · rename_i hall
     obtain ⟨w,h2,hw⟩:=h2
     rw [if_neg hall]
     refine or46 ?_
     simp only [r46,h4,cond_false,h0,bind_some,h2,hw]
 · rw [show nmS [] = [] from rfl,if_neg hn] at hz
   obtain ⟨w,rfl,hw⟩:=hz
   have hn':nodR [] l = false:=by simpa using hn
   rw [hn',Bool.false_and,if_neg (by decide)]
   refine or46 ?_
   simp only [r46,h4,cond_false,h0,bind_some,hw]
theorem Run_eq {l:List Sm} (hl:l.length ≤ 1000) (hs:∀ s ∈ l,s.2.2.length ≤ 1000000):c45 T.rf l = some ([],chk12 l):=or45 (by
 have h:=begin_eq hl hs
 unfold chk12
 split at h
 · rename_i hok
   obtain ⟨b,c,us,M,o,h⟩:=h
   rw [if_pos hok]
   simp only [r45,h,bind_some]
   by_cases h0:(orderL (eqsS l)).2 = 0
   · rw [nbt h0,cond_false,h0]
   · rw [nbf h0,cond_true]
 · rename_i hok
   rw [if_neg hok]
   simp only [r45,h,bind_some]; rfl)
end Go.Proofs.YtadonikkibahnaaGreat.R
