import Derived.Test.YtadonikkibahnaaGreatCauR
open Option (bind_some)
namespace Go.Proofs.YtadonikkibahnaaGreat.R
open Go Go.Bm Go.Proofs
set_option linter.unusedVariables false
set_option linter.unusedSimpArgs false
set_option maxRecDepth 4000
abbrev Sm:Type:=List UInt8 × Int × List Nd
def nmS (l:List Sm):List (List UInt8):=l.map (·.1)
theorem nmS_app (l m:List Sm):nmS (l ++ m) = nmS l ++ nmS m:=List.map_append
theorem nmS_len (l:List Sm):(nmS l).length = l.length:=List.length_map ..
def nodR:List (List UInt8) → List Sm → Bool
 | _,[] => true
 | P,s :: r => !(decide (s.1 ∈ P)) && nodR (P ++ [s.1]) r
def okN (N:List (List UInt8)) (n:Nd):Bool:=decide (n.1 ≠ 27) && (decide (n.1 ≠ 3) || decide (n.2.2.2.2.2 ∈ N))
def okE (N:List (List UInt8)) (e:List Nd):Bool:=mayB e && e.all (okN N)
def okS (N:List (List UInt8)) (s:Sm):Bool:=decide (s.2.2 = []) || okE N s.2.2
def eqsS (l:List Sm):List Eqn:=(l.filter fun s => decide (s.2.2 ≠ [])).map fun s => (s.1,s.2.2)
def okL (l:List Sm):Bool:=nodR [] l && l.all (okS (nmS l))
noncomputable def chk12 (l:List Sm):Int:=if okL l = true then (orderL (eqsS l)).2 else 1
theorem eqsS_len (l:List Sm):(eqsS l).length ≤ l.length:=by rw [eqsS,List.length_map]; exact List.length_filter_le _ _
theorem eqsS_mem {l:List Sm} {q:Eqn} (h:q ∈ eqsS l):∃ s ∈ l,s.2.2 ≠ [] ∧ q = (s.1,s.2.2):=by
 rw [eqsS,List.mem_map] at h
 obtain ⟨s,h1,h2⟩:=h
 rw [List.mem_filter] at h1
 exact ⟨s,h1.1,of_decide_eq_true h1.2,h2.symm⟩
theorem eqsS_cons (s:Sm) (l:List Sm):eqsS (s :: l) = if s.2.2 = [] then eqsS l else (s.1,s.2.2) :: eqsS l:=by
 unfold eqsS
 by_cases h:s.2.2 = []
 · rw [if_pos h,List.filter_cons_of_neg (by simp [h])]
 · rw [if_neg h,List.filter_cons_of_pos (by simp [h]),List.map_cons]
theorem has_set {V:Type} (x:List UInt8) (v:V) (y:List UInt8):∀ m:List (List UInt8 × V),assocHas (CT.eqK .str) (assocSet (CT.eqK .str) m x v) y = (decide (y = x) || assocHas (CT.eqK .str) m y)
 | [] => by
   by_cases h:y = x
   · subst h; have:CT.eqK .str y y = true:=beq_self_eq_true y
     simp [assocSet,assocHas,assoc,this]
   · have:CT.eqK .str y x = false:=beq_eq_false_iff_ne.2 h
     simp [assocSet,assocHas,assoc,this,h]
 | p :: r => by
   have ih:=has_set x v y r
   unfold assocHas at ih ⊢
   by_cases hx:x = p.1
   · have e1:CT.eqK .str x p.1 = true:=beq_iff_eq.2 hx
     by_cases h:y = x
     · subst h
       have e2:CT.eqK .str y y = true:=beq_self_eq_true y
       simp [assocSet,assoc,e1,e2]
     · have e2:CT.eqK .str y x = false:=beq_eq_false_iff_ne.2 h
       have e3:CT.eqK .str y p.1 = false:=beq_eq_false_iff_ne.2 (hx ▸ h)
       simp [assocSet,assoc,e1,e2,e3,h]
   · have e1:CT.eqK .str x p.1 = false:=beq_eq_false_iff_ne.2 hx
     by_cases h:y = p.1
     · have e2:CT.eqK .str y p.1 = true:=beq_iff_eq.2 h
       simp [assocSet,assoc,e1,e2]
     · have e2:CT.eqK .str y p.1 = false:=beq_eq_false_iff_ne.2 h
       simp only [assocSet,assoc,e1,e2,cond_false]
       exact ih
def Knows (M:List (List UInt8 × Int)) (P:List (List UInt8)):Prop:=∀ x,assocHas (CT.eqK .str) M x = decide (x ∈ P)
theorem knows_nil:Knows [] []:=fun x => by simp [assocHas,assoc]
theorem knows_set {M:List (List UInt8 × Int)} {P:List (List UInt8)} (h:Knows M P) (x:List UInt8) (v:Int):Knows (assocSet (CT.eqK .str) M x v) (P ++ [x]):=fun y => by
 rw [has_set,h]
 by_cases e:y = x
 · simp [e]
 · simp [e]
theorem num_loop (a:Int) (b:Bool) (c:Int) (u:List Unit) (o:List Int):∀ (suf pre:List Sm) (M:List (List UInt8 × Int)),pre.length + suf.length ≤ 1000000 → Knows M (nmS pre) →
  ∃ z,k244 T.rb a b c u M o (pre ++ suf) ((pre ++ suf).length:Nat) (pre.length:Nat) = some z ∧
   (if nodR (nmS pre) suf = true then ∃ M',z = .inr (a,b,c,u,M',o) ∧ Knows M' (nmS (pre ++ suf)) else ∃ w,z = .inl w ∧ w.1 = 1)
 | [],pre,M,h,hM => ⟨.inr (a,b,c,u,M,o),ob244 (by simp only [b244,lt_end,lt_self,List.append_nil,cond_false]),by rw [nodR,if_pos rfl,List.append_nil]; exact ⟨M,rfl,hM⟩⟩
 | s :: suf,pre,M,h,hM => by
   simp only [List.length_cons] at h
   obtain ⟨z,ih,hz⟩:=num_loop a b c u o suf (pre ++ [s]) (assocSet (CT.eqK .str) M s.1 ((pre.length:Nat):Int)) (by simp; omega) (by rw [nmS_app]; exact knows_set hM _ _)
   simp only [List.append_assoc,List.singleton_append] at ih hz
   have hh:assocHas (CT.eqK .str) M s.1 = decide (s.1 ∈ nmS pre):=hM s.1
   rw [nodR]
   by_cases hd:s.1 ∈ nmS pre
   · refine ⟨.inl (1,b,c,u,M,o),ob244 ?_,?_⟩
     · simp only [b244,lt_mid,inb_mid,nth_mid,cond_true,bind_some]
       erw [hh]
       rw [dt hd,cond_true]
     · rw [dt hd,Bool.not_true,Bool.false_and,if_neg (by decide)]; exact ⟨_,rfl,rfl⟩
   · refine ⟨z,ob244 ?_,?_⟩
     · simp only [b244,lt_mid,inb_mid,nth_mid,cond_true,bind_some,next_mid pre s (by omega)]
       erw [hh]
       rw [df hd,cond_false]
       exact ih
     · rw [df hd,Bool.not_false,Bool.true_and]
       rw [nmS_app] at hz
       exact hz
theorem mark_loop (n:Nd) (a:List UInt8) (b:Int) (c:List Nd) (o:List Int) (v:List Int) (U:List Unit) (i:Int):∀ (suf pre:List Int) (L:List Bool),pre.length + suf.length ≤ 1000 → (0 ≤ i ∧ i < L.length) → (∀ k ∈ suf,0 ≤ k ∧ k < L.length) →
  ∃ L',L'.length = L.length ∧ k251 T.rb n (pre ++ suf) a b c o L v U i ((pre ++ suf).length:Nat) (pre.length:Nat) = some (n,pre ++ suf,a,b,c,o,L',v,U)
 | [],pre,L,h,hi,hk => ⟨L,rfl,ob251 (by simp only [b251,lt_end,lt_self,List.append_nil,cond_false])⟩
 | k :: suf,pre,L,h,hi,hk => by
   simp only [List.length_cons] at h
   obtain ⟨h0,h1⟩:=hk k (List.mem_cons_self ..)
   have hlen:∀ y:Bool,(setNth L k.toNat y).length = L.length:=fun y => setNth_len L _ y
   have ihs:=fun y:Bool => mark_loop n a b c o v U i suf (pre ++ [k]) (setNth L k.toNat y) (by simp; omega) (by rw [hlen]; exact hi) (fun x hx => by rw [hlen]; exact hk x (List.mem_cons_of_mem _ hx))
   simp only [List.append_assoc,List.singleton_append,hlen] at ihs
   obtain ⟨x,hx⟩:∃ x,nth L i.toNat = some x:=⟨_,nth_t (by omega)⟩
   have hin:inb i L.length = true:=inb_t hi.1 hi.2
   have hkn:inb k L.length = true:=inb_t h0 h1
   have hkb:Nat.blt k.toNat L.length = true:=blt_t (by omega)
   cases hxv:x with
   | true =>
     obtain ⟨L',hl,ih⟩:=ihs true
     refine ⟨L',hl,ob251 ?_⟩
     simp only [b251,lt_mid,inb_mid,nth_mid,cond_true,bind_some,hin,hx,hxv,hkn,hkb,next_mid pre k (by omega),ih]
   | false =>
     by_cases h21:n.1 = 21
     · obtain ⟨L',hl,ih⟩:=ihs true
       refine ⟨L',hl,ob251 ?_⟩
       simp only [b251,lt_mid,inb_mid,nth_mid,cond_true,bind_some,hin,hx,hxv,cond_false,bt h21,hkn,hkb,next_mid pre k (by omega),ih]
     · obtain ⟨L',hl,ih⟩:=ihs (n.1 == 24)
       refine ⟨L',hl,ob251 ?_⟩
       simp only [b251,lt_mid,inb_mid,nth_mid,cond_true,bind_some,hin,hx,hxv,cond_false,bf h21,hkn,hkb,next_mid pre k (by omega),ih]
theorem mark_eq (n:Nd) (a:List UInt8) (b:Int) (c:List Nd) (o:List Int) (v:List Int) (U:List Unit) (i:Int) (L:List Bool) (hi:0 ≤ i ∧ i < L.length) (hk:∀ k ∈ kids n,0 ≤ k ∧ k < L.length) :
  ∃ L',L'.length = L.length ∧ k250 T.rb n a b c o L v U i = some (n,a,b,c,o,L',v,U):=by
 have hl:=kids_len n
 obtain ⟨L',h1,h2⟩:=mark_loop n a b c o v U i (kids n) [] L (by simp; omega) hi hk
 rw [List.nil_append,List.length_nil,show ((0:Nat):Int) = (0:Int) from rfl] at h2
 exact ⟨L',h1,ob250 (by simp only [b250,kids_eq,bind_some,h2])⟩
theorem setU {U:List Unit} (k:Nat):setNth U k () = U:=by
 rw [setNth_set]
 apply List.ext_getElem
 · simp
 · intro i h1 h2; rfl
theorem body_eq (a:Int) (n:Nd) (b:Bool) (c:Int) (s:List UInt8) (t:Int) (e:List Nd) (o:List Int) (us:List Unit) (M:List (List UInt8 × Int)) (r:List Int) (L:List Bool) (v:List Int) (U:List Unit) (i:Int) {N:List (List UInt8)}
  (hM:Knows M N) (hi:0 ≤ i ∧ i < L.length) (hU:U.length = L.length) (hk:∀ k ∈ kids n,0 ≤ k ∧ k < L.length) :
  if okN N n = true then ∃ L',L'.length = L.length ∧ k249 T.rb a n b c s t e o us M r L v U i = some (.inr (a,n,b,c,s,t,e,o,us,M,r,L',v,U))
  else ∃ w,k249 T.rb a n b c s t e o us M r L v U i = some (.inl w) ∧ w.1 = 1:=by
 have hh:assocHas (CT.eqK .str) M n.2.2.2.2.2 = decide (n.2.2.2.2.2 ∈ N):=hM _
 have hin:inb i U.length = true:=inb_t hi.1 (by omega)
 have hbl:Nat.blt i.toNat U.length = true:=blt_t (by omega)
 obtain ⟨L',hl,hm⟩:=mark_eq n s t e o v U i L hi hk
 obtain ⟨f,hf⟩:∃ f,c56 T.rf n = some f:=by
  have key:∃ f,r56 T.rf T.rb n = some f:=by
   simp only [r56]
   cases n.1 == 22 <;> cases n.1 == 23 <;> cases n.1 == 25 <;> cases n.1 == 20 <;> exact ⟨_,rfl⟩
  obtain ⟨f,h⟩:=key
  exact ⟨f,or56 h⟩
 unfold okN
 by_cases h27:n.1 = 27
 · rw [df (by simpa using h27),Bool.false_and,if_neg (by decide)]
   exact ⟨(1,n,b,c,s,t,e,o,us,M,r,L,v,U),ob249 (by simp only [b249,bt h27,cond_true]),rfl⟩
 rw [dt (show n.1 ≠ 27 from h27),Bool.true_and]
 by_cases h3:n.1 = 3
 · rw [df (by simpa using h3),Bool.false_or]
   by_cases hn:n.2.2.2.2.2 ∈ N
   · rw [dt hn,if_pos rfl]
     refine ⟨L',hl,ob249 ?_⟩
     simp only [b249,bf h27,cond_false,bt h3,cond_true]
     erw [hh]
     rw [dt hn,Bool.not_true,cond_false,hf,bind_some]
     simp only [setU,hin,hbl,cond_true,hm,bind_some]
     rcases f with _ | _ | _ | _ | _ <;> rfl
   · rw [df hn,if_neg (by decide)]
     refine ⟨(1,n,b,c,s,t,e,o,us,M,r,L,v,U),ob249 ?_,?_⟩
     · simp only [b249,bf h27,cond_false,bt h3,cond_true]
       erw [hh]
       rw [df hn,Bool.not_false,cond_true]
     · rfl
 · rw [dt (show n.1 ≠ 3 from h3),Bool.true_or,if_pos rfl]
   refine ⟨L',hl,ob249 ?_⟩
   simp only [b249,bf h27,cond_false,bf h3,hf,bind_some,setU,hin,hbl,cond_true,hm]
   rcases f with _ | _ | _ | _ | _ <;> rfl
theorem back_loop (e:List Nd) (b:Bool) (c:Int) (s:List UInt8) (t:Int) (ee:List Nd) (o:List Int) (us:List Unit) (M:List (List UInt8 × Int)) (r:List Int) (v:List Int) (U:List Unit) (a:Int) {N:List (List UInt8)}
  (hM:Knows M N) (hU:U.length = e.length) (hA:Ahead e) (he:e.length ≤ 1000000):∀ (i:Nat) (n:Nd) (L:List Bool),L.length = e.length → nth e i = some n →
  if (e.take (i + 1)).all (okN N) = true then ∃ L',L'.length = e.length ∧ k248 T.rb a e b c s t ee o us M r L v U (i:Nat) n = some (.inr (a,e,b,c,s,t,ee,o,us,M,r,L',v,U))
  else ∃ w,k248 T.rb a e b c s t ee o us M r L v U (i:Nat) n = some (.inl w) ∧ w.1 = 1
 | i,n,L,hL,hn => by
   have hil:i < e.length:=by
    rw [nth_getElem?] at hn; exact (List.getElem?_eq_some_iff.1 hn).1
   have hei:e[i] = n:=by rw [nth_t hil] at hn; exact Option.some.inj hn
   have hb:=body_eq a n b c s t ee o us M r L v U (i:Nat) hM ⟨by omega,by omega⟩ (by omega) (fun k hk => by have:=hA i n hn k hk; omega)
   rw [List.take_succ_eq_append_getElem hil,List.all_append,List.all_cons,List.all_nil,Bool.and_true,hei]
   cases hok:okN N n
   · rw [hok,if_neg (by decide)] at hb
     obtain ⟨w,hw,h1⟩:=hb
     rw [Bool.and_false,if_neg (by decide)]
     exact ⟨(w.1,e,w.2.2),ob248 (by simp only [b248,hw,bind_some]),h1⟩
   · rw [hok,if_pos rfl] at hb
     obtain ⟨L1,hl1,hw⟩:=hb
     rw [Bool.and_true]
     cases i with
     | zero =>
       rw [List.take_zero,List.all_nil,if_pos rfl]
       exact ⟨L1,by omega,ob248 (by simp only [b248,hw,bind_some,show (((0:Nat):Int) == 0) = true from rfl,cond_true])⟩
     | succ i =>
       obtain ⟨m,hm⟩:∃ m,nth e i = some m:=⟨_,nth_t (by omega)⟩
       have ih:=back_loop e b c s t ee o us M r v U a hM hU hA he i m L1 (by omega) hm
       have hpr:(((i + 1:Nat):Int) - 1) = ((i:Nat):Int):=by omega
       have hne:((((i + 1:Nat):Int)) == 0) = false:=bf (by omega)
       cases hall:(e.take (i + 1)).all (okN N)
       · rw [hall,if_neg (by decide)] at ih
         obtain ⟨w,hw2,h1⟩:=ih
         rw [if_neg (by decide)]
         exact ⟨w,ob248 (by simp only [b248,hw,bind_some,hne,cond_false,hpr,Int.toNat_natCast,hm,hw2]),h1⟩
       · rw [hall,if_pos rfl] at ih
         obtain ⟨L2,hl2,hw2⟩:=ih
         rw [if_pos rfl]
         exact ⟨L2,hl2,ob248 (by simp only [b248,hw,bind_some,hne,cond_false,hpr,Int.toNat_natCast,hm,hw2])⟩
end Go.Proofs.YtadonikkibahnaaGreat.R
