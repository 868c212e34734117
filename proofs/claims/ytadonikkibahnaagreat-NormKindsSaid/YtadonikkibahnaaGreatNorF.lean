import Derived.Test.YtadonikkibahnaaGreatNorE
open Option (bind_some)
namespace Go.Proofs.YtadonikkibahnaaGreat.R
open Go Go.Bm Go.Proofs
set_option linter.unusedVariables false
set_option linter.unusedSimpArgs false
set_option maxRecDepth 4000
mutual
theorem flat_blank {e:List Nd}:∀ (t:Tr) (i o:Nat),Emb e i t → ∀ n ∈ flat t o,∃ n' ∈ e,blank n = blank n'
 | .mk b ks,i,o,h,n,hn => by
   rw [Emb] at h
   obtain ⟨m,h1,h2,h3,h4⟩:=h
   rw [flat,List.mem_append] at hn
   rcases hn with hn | hn
   · exact flats_blank ks _ i o h4 n hn
   · rw [List.mem_singleton] at hn
     subst hn
     refine ⟨m,?_,by rw [blank_aim,h2]; rfl⟩
     rw [nth_getElem?] at h1
     exact List.mem_of_getElem? h1
theorem flats_blank {e:List Nd}:∀ (ts:List Tr) (l:List Int) (i o:Nat),Embs e i l ts → ∀ n ∈ flats ts o,∃ n' ∈ e,blank n = blank n'
 | [],_,_,_,_,n,hn => by rw [flats] at hn; cases hn
 | t :: r,[],_,_,h,n,hn => h.elim
 | t :: r,k :: l,i,o,h,n,hn => by
   rw [Embs] at h
   rw [flats,List.mem_append] at hn
   rcases hn with hn | hn
   · exact flat_blank t _ o h.2.2.1 n hn
   · exact flats_blank r l i _ h.2.2.2 n hn
end
theorem norm_blank {e:List Nd} {n:Nd} (h:n ∈ norm e):∃ n' ∈ e,blank n = blank n':=by
 by_cases hm:mayB e = true
 · obtain ⟨t,ht,_⟩:=may_tree hm
   rw [norm_flat hm ht] at h
   exact flat_blank t _ 0 ht n h
 · rw [norm_not hm] at h; cases h
theorem blank_op {n m:Nd} (h:blank n = blank m):n.1 = m.1 ∧ n.2.2.2.2 = m.2.2.2.2:=by
 unfold blank at h
 simp only [Prod.mk.injEq] at h
 exact ⟨h.1,h.2.2.2.2⟩
theorem okN_norm {N:List (List UInt8)} {e:List Nd} (h:e.all (okN N) = true):(norm e).all (okN N) = true:=by
 rw [List.all_eq_true] at h ⊢
 intro n hn
 obtain ⟨m,hm,hb⟩:=norm_blank hn
 obtain ⟨h1,h2⟩:=blank_op hb
 have:=h m hm
 unfold okN at this ⊢
 rw [h1,h2]; exact this
theorem root_var {e:List Nd} (h:mayB e = true) {n:Nd} (hn:nth (norm e) ((norm e).length - 1) = some n) (h3:n.1 = 3):n.2.2.2.2.2 ∈ needs e:=by
 obtain ⟨t,ht,_⟩:=may_tree h
 have hE:=norm_tree h ht
 rw [needs_of h ht]
 obtain ⟨b,ks⟩:=t
 rw [Emb] at hE
 obtain ⟨m,k1,k2,_,_⟩:=hE
 rw [k1] at hn
 obtain rfl:=Option.some.inj hn
 have hb1:b.1 = 3:=by rw [k2]; exact h3
 have hb2:b.2.2.2.2.2 = m.2.2.2.2.2:=by rw [k2]; rfl
 rw [nowT,if_neg (by omega),if_pos hb1,hb2]
 simp [addV]
theorem nodR_iff:∀ (l:List Sm) (P:List (List UInt8)),P.Nodup → nodR P l = true → (P ++ nmS l).Nodup
 | [],P,hP,_ => by simpa [nmS] using hP
 | s :: r,P,hP,h => by
   rw [nodR,Bool.and_eq_true,Bool.not_eq_true',decide_eq_false_iff_not] at h
   have:=nodR_iff r (P ++ [s.1]) (by rw [List.nodup_append]; exact ⟨hP,by simp,fun a ha b hb e => by rw [List.mem_singleton] at hb; subst hb; subst e; exact h.1 ha⟩) h.2
   rw [List.append_assoc] at this
   exact this
theorem nm_inj:∀ {l:List Sm},(nmS l).Nodup → ∀ s ∈ l,∀ t ∈ l,s.1 = t.1 → s = t
 | [],_,s,hs,_,_,_ => by cases hs
 | x :: r,h,s,hs,t,ht,e => by
   rw [show nmS (x :: r) = x.1 :: nmS r from rfl,List.nodup_cons] at h
   have hx:∀ y ∈ r,y.1 ≠ x.1:=fun y hy e => h.1 (e ▸ List.mem_map_of_mem (f:=(·.1)) hy)
   rcases List.mem_cons.1 hs with h1 | h1
   · rcases List.mem_cons.1 ht with h2 | h2
     · rw [h1,h2]
     · exact absurd (by rw [← e,h1]) (hx t h2)
   · rcases List.mem_cons.1 ht with h2 | h2
     · exact absurd (by rw [e,h2]) (hx s h1)
     · exact nm_inj h.2 s h1 t h2 e
theorem val_idx {D:Nat → Nat → Bool} {n:Nat} {V:List Nat} (hV:Val D n V) (hl:n ≤ V.length) {i j:Nat} (hi:i < n) (hj:j < n) (hd:D i j = true):V.idxOf j < V.idxOf i:=by
 have hiV:=val_all hV hl i hi
 obtain ⟨A,B,e⟩:=List.append_of_mem hiV
 have hjA:=val_behind hV A B i e j hj hd
 have hnd:=val_nodup hV
 have hiA:i ∉ A:=fun hA => by
  rw [e,List.nodup_append] at hnd
  exact hnd.2.2 i hA i List.mem_cons_self rfl
 rw [e,List.idxOf_append,List.idxOf_append,if_pos hjA,if_neg hiA,List.idxOf_cons_self]
 have:=List.idxOf_lt_length_of_mem hjA
 omega
noncomputable def ordV (l:List Sm):List Nat:=greedy (DL (eqsS l)) (eqsS l).length (eqsS l).length []
def nmQ (q:List Eqn):List (List UInt8):=q.map (·.1)
noncomputable def rk (l:List Sm) (x:List UInt8):Nat:=(ordV l).idxOf ((nmQ (eqsS l)).idxOf x)
theorem eqAt_idx {l:List Sm} (hn:(nmS l).Nodup) {s:Sm} (hs:s ∈ l) (hne:s.2.2 ≠ []):(nmQ (eqsS l)).idxOf s.1 < (eqsS l).length ∧ eqAt (eqsS l) ((nmQ (eqsS l)).idxOf s.1) = (s.1,s.2.2):=by
 have hm:(s.1,s.2.2) ∈ eqsS l:=by
  rw [eqsS,List.mem_map]
  exact ⟨s,List.mem_filter.2 ⟨hs,decide_eq_true hne⟩,rfl⟩
 have hx:s.1 ∈ nmQ (eqsS l):=List.mem_map_of_mem (f:=(·.1)) hm
 have hlt:=List.idxOf_lt_length_of_mem hx
 have hlt':(nmQ (eqsS l)).idxOf s.1 < (eqsS l).length:=by rw [nmQ,List.length_map] at hlt; exact hlt
 refine ⟨hlt',?_⟩
 have hg:(nmQ (eqsS l))[(nmQ (eqsS l)).idxOf s.1] = s.1:=List.getElem_idxOf hlt
 have he:eqAt (eqsS l) ((nmQ (eqsS l)).idxOf s.1) = (eqsS l)[(nmQ (eqsS l)).idxOf s.1]:=by
  rw [eqAt,List.getD_eq_getElem?_getD,List.getElem?_eq_getElem hlt']; rfl
 have hname:((eqsS l)[(nmQ (eqsS l)).idxOf s.1]).1 = s.1:=by
  have h2:(nmQ (eqsS l))[(nmQ (eqsS l)).idxOf s.1] = ((eqsS l)[(nmQ (eqsS l)).idxOf s.1]).1:=by unfold nmQ; exact List.getElem_map (fun q:Eqn => q.1)
  exact h2.symm.trans hg
 obtain ⟨t,ht,_,hte⟩:=eqsS_mem (List.getElem_mem hlt')
 rw [he,hte]
 rw [hte] at hname
 rw [nm_inj hn t ht s hs hname]
theorem rk_lt {l:List Sm} (hn:(nmS l).Nodup) (ho:(orderL (eqsS l)).2 = 0) {s t:Sm} (hs:s ∈ l) (hse:s.2.2 ≠ []) (ht:t ∈ l) (hte:t.2.2 ≠ []) (hx:t.1 ∈ needs s.2.2):rk l t.1 < rk l s.1:=by
 obtain ⟨a1,a2⟩:=eqAt_idx hn hs hse
 obtain ⟨b1,b2⟩:=eqAt_idx hn ht hte
 have hv:Val (DL (eqsS l)) (eqsS l).length (ordV l):=greedy_val _ _ Val.nil
 have hlen:(eqsS l).length ≤ (ordV l).length:=by
  refine Nat.le_of_not_lt fun h => ?_
  have:(orderL (eqsS l)).2 = 12:=by
   unfold ordV at h
   unfold orderL ordO
   rw [if_pos h]
  rw [this] at ho; cases ho
 refine val_idx hv hlen a1 b1 ?_
 unfold DL nmL nsL
 rw [a2,b2]
 exact decide_eq_true hx
structure Fine (l:List Sm):Prop where
 len:l.length ≤ 100
 small:∀ s ∈ l,s.2.2.length ≤ 1000000
 nod:nodR [] l = true
 ok:∀ s ∈ l,s.2.2 ≠ [] → mayB s.2.2 = true ∧ s.2.2.all (okN (nmS l)) = true
 ord:(orderL (eqsS l)).2 = 0
theorem fine_of {l:List Sm} (h1:l.length ≤ 100) (h2:∀ s ∈ l,s.2.2.length ≤ 1000000) (h:chk12 l = 0):Fine l:=by
 unfold chk12 at h
 split at h
 · rename_i hok
   unfold okL at hok
   rw [Bool.and_eq_true,List.all_eq_true] at hok
   refine ⟨h1,h2,hok.1,fun s hs hne => ?_,h⟩
   have:=hok.2 s hs
   unfold okS okE at this
   rw [df hne,Bool.false_or,Bool.and_eq_true] at this
   exact this
 · cases h
def PL (l:List Sm):List (List Int):=plB l (nIn l) 0
def EX (l:List Sm):List (List Nd):=l.map xp
theorem xp_ne {l:List Sm} (F:Fine l) {s:Sm} (hs:s ∈ l) (hne:s.2.2 ≠ []):0 < (xp s).length:=by
 obtain ⟨h1,_⟩:=F.ok s hs hne
 rw [xp,(norm_may h1).2.1]
 exact List.length_pos_iff.2 hne
theorem xp_ok {l:List Sm} (F:Fine l) {s:Sm} (hs:s ∈ l) {n:Nd} (hn:n ∈ xp s):n.1 ≠ 27 ∧ (n.1 = 3 → n.2.2.2.2.2 ∈ nmS l):=by
 by_cases hne:s.2.2 = []
 · rw [xp_nil hne] at hn; cases hn
 · obtain ⟨_,h2⟩:=F.ok s hs hne
   have:=List.all_eq_true.1 (okN_norm h2) n hn
   unfold okN at this
   rw [Bool.and_eq_true,decide_eq_true_eq,Bool.or_eq_true,decide_eq_true_eq,decide_eq_true_eq] at this
   exact ⟨this.1,fun h3 => this.2.resolve_left (fun h => h h3)⟩
theorem nm_at {l:List Sm} {x:List UInt8} (h:x ∈ nmS l):∃ t,nth l ((nmS l).idxOf x) = some t ∧ t.1 = x:=by
 have hlt:=List.idxOf_lt_length_of_mem h
 rw [nmS_len] at hlt
 refine ⟨l[(nmS l).idxOf x],nth_t hlt,?_⟩
 have hg:(nmS l)[(nmS l).idxOf x]'(List.idxOf_lt_length_of_mem h) = x:=List.getElem_idxOf _
 have h2:(nmS l)[(nmS l).idxOf x]'(List.idxOf_lt_length_of_mem h) = (l[(nmS l).idxOf x]).1:=by unfold nmS; exact List.getElem_map (fun s:Sm => s.1)
 exact h2.symm.trans hg
theorem nth_mem {α:Type} {l:List α} {i:Nat} {x:α} (h:nth l i = some x):x ∈ l ∧ i < l.length:=by
 rw [nth_getElem?] at h
 exact ⟨List.mem_of_getElem? h,(List.getElem?_eq_some_iff.1 h).1⟩
theorem ex_nth {l:List Sm} {i:Nat} {s:Sm} (h:nth l i = some s):nth (EX l) i = some (xp s):=by
 rw [nth_getElem?] at h ⊢
 rw [EX,List.getElem?_map,h]; rfl
section
variable {l:List Sm} (F:Fine l) {M:List (List UInt8 × Int)} (hM:Gets M (nmS l))
include F hM
theorem root_ok:∀ (m i:Nat) (s:Sm),nth l i = some s → (s.2.2 ≠ [] → rk l s.1 < m) → ∃ (v:Int) (p:List Int),nth (PL l) i = some p ∧ 0 ≤ v ∧ p ≠ [] ∧ p.length ≤ 5001 ∧ (s.2.2 ≠ [] → p.length = (xp s).length) ∧
  c80 T.rf (PL l) (EX l) M (i:Nat) ((p.length:Int) - 1) = some (PL l,EX l,M,v) ∧ c122 T.rf l (PL l) (i:Nat) = some v
 | m,i,s,hi,hm => by
   obtain ⟨hsm,hil⟩:=nth_mem hi
   obtain ⟨p,hp,hp2⟩:=plB_get l (nIn l) 0 i s hi
   change nth (PL l) i = some p at hp
   have hPl:(PL l).length = l.length:=plB_len _ _ _
   have hEl:(EX l).length = l.length:=List.length_map ..
   have hin:inb ((i:Nat):Int) l.length = true:=inb_t (by omega) (by omega)
   have hnl:nth l ((i:Nat):Int).toNat = some s:=by rw [Int.toNat_natCast]; exact hi
   have hnp:nth (PL l) ((i:Nat):Int).toNat = some p:=by rw [Int.toNat_natCast]; exact hp
   have hne:nth (EX l) ((i:Nat):Int).toNat = some (xp s):=by rw [Int.toNat_natCast]; exact ex_nth hi
   by_cases he:s.2.2 = []
   · rw [if_pos he] at hp2
     obtain ⟨v,hv,rfl⟩:=hp2
     refine ⟨v,[v],hp,hv,by simp,by simp,fun h => absurd he h,or80 ?_,or122 ?_⟩
     · simp only [r80,hEl,hPl,hin,hne,hnp,cond_true,bind_some,xp_nil he]
       rfl
     · simp only [r122,hPl,hin,hnl,hnp,cond_true,bind_some,Norm_eq (F.small s hsm)]
       rw [show norm s.2.2 = [] from xp_nil he]; rfl
   · rw [if_neg he] at hp2
     obtain ⟨q,rfl⟩:=hp2
     have hpos:=xp_ne F hsm he
     have hxl:=xp_len s
     obtain ⟨n,hn⟩:∃ n,nth (xp s) ((xp s).length - 1) = some n:=⟨_,nth_t (by omega)⟩
     have hidx:(((xp s).length:Int) - 1) = (((xp s).length - 1:Nat):Int):=by omega
     have hnn:nth (xp s) (((xp s).length:Int) - 1).toNat = some n:=by rw [hidx,Int.toNat_natCast]; exact hn
     have hinx:inb (((xp s).length:Int) - 1) (xp s).length = true:=inb_t (by omega) (by omega)
     have hgt:decide ((((xp s).length:Nat):Int) > 0) = true:=dt (by omega)
     have hwr:IntKind.i64.wrap ((((xp s).length:Nat):Int) - 1) = ((xp s).length:Int) - 1:=wr_pred (by omega)
     have hz:((((xp s).length:Nat):Int) == 0) = false:=bf (by omega)
     obtain ⟨hmay,_⟩:=F.ok s hsm he
     by_cases h3:n.1 = 3
     · have hx:=(xp_ok F hsm (nth_mem hn).1).2 h3
       obtain ⟨t,ht,htn⟩:=nm_at hx
       have hneed:=root_var hmay hn h3
       have hrank:t.2.2 ≠ [] → rk l t.1 < rk l s.1:=fun hte => rk_lt (by simpa using nodR_iff l [] (by simp) F.nod) F.ord hsm he (nth_mem ht).1 hte (by rw [htn]; exact hneed)
       have hm1:=hm he
       obtain ⟨v,p,g1,g2,g3,g4,_,g5,g6⟩:=root_ok (m - 1) ((nmS l).idxOf n.2.2.2.2.2) t ht (fun hte => by have:=hrank hte; omega)
       have hto:assocGet (CT.eqK .str) 0 M n.2.2.2.2.2 = (((nmS l).idxOf n.2.2.2.2.2:Nat):Int):=hM _ hx
       have hto2:fndS l n.2.2.2.2.2 = (((nmS l).idxOf n.2.2.2.2.2:Nat):Int):=if_pos hx
       have htl:=(nth_mem ht).2
       have hint:inb (((nmS l).idxOf n.2.2.2.2.2:Nat):Int) l.length = true:=inb_t (by omega) (by omega)
       have hnt:nth (PL l) (((nmS l).idxOf n.2.2.2.2.2:Nat):Int).toNat = some p:=by rw [Int.toNat_natCast]; exact g1
       refine ⟨v,rowP (xp s) q,hp,g2,by intro h; have:=rowP_len (xp s) q; rw [h] at this; simp at this; omega,by rw [rowP_len]; exact hxl,fun _ => rowP_len _ _,or80 ?_,or122 ?_⟩
       · simp only [r80,rowP_len,hEl,hPl,hin,hne,cond_true,bind_some,hgt,hinx,hnn,bt h3]
         erw [hto]
         rw [hint,cond_true,hnt,bind_some,wr_pred (by omega),g5]; rfl
       · have hnd:c123 T.rf l (PL l) (xp s) (i:Nat) (((xp s).length:Int) - 1) = some v:=or123 (by
          simp only [r123,hinx,hnn,cond_true,bind_some,bt h3,Find_eq (show l.length ≤ 100000 by have:=F.len; omega),hto2,g6])
         simp only [r122,hPl,hin,hnl,cond_true,bind_some,Norm_eq (F.small s hsm)]
         show (bif ((((xp s).length:Nat):Int) == 0) then _ else (c123 T.rf l (PL l) (xp s) (i:Nat) (IntKind.i64.wrap ((((xp s).length:Nat):Int) - 1))).bind _) = _
         rw [hz,cond_false,hwr,hnd,bind_some]
     · obtain ⟨v,hv,hrow⟩:=rowP_get (xp s) q ((xp s).length - 1) (by omega)
       have hrv:nth (rowP (xp s) q) (((xp s).length:Int) - 1).toNat = some v:=by rw [hidx,Int.toNat_natCast]; exact hrow
       have hri:inb (((xp s).length:Int) - 1) (rowP (xp s) q).length = true:=by rw [rowP_len]; exact hinx
       refine ⟨v,rowP (xp s) q,hp,hv,by intro h; have:=rowP_len (xp s) q; rw [h] at this; simp at this; omega,by rw [rowP_len]; exact hxl,fun _ => rowP_len _ _,or80 ?_,or122 ?_⟩
       · simp only [r80,rowP_len,hEl,hPl,hin,hne,cond_true,bind_some,hgt,hinx,hnn,bf h3,cond_false,hnp,hrv]
       · have hnd:c123 T.rf l (PL l) (xp s) (i:Nat) (((xp s).length:Int) - 1) = some v:=or123 (by
          simp only [r123,hinx,hnn,cond_true,bind_some,bf h3,cond_false,hPl,hin,hnp,hri,hrv])
         simp only [r122,hPl,hin,hnl,cond_true,bind_some,Norm_eq (F.small s hsm)]
         show (bif ((((xp s).length:Nat):Int) == 0) then _ else (c123 T.rf l (PL l) (xp s) (i:Nat) (IntKind.i64.wrap ((((xp s).length:Nat):Int) - 1))).bind _) = _
         rw [hz,cond_false,hwr,hnd,bind_some]
 termination_by m => m
 decreasing_by
  have:=hm he
  omega
theorem node_ok {i:Nat} {s:Sm} (hi:nth l i = some s) {k:Nat} {n:Nd} (hn:nth (xp s) k = some n):∃ v:Int,0 ≤ v ∧
  c80 T.rf (PL l) (EX l) M (i:Nat) (k:Nat) = some (PL l,EX l,M,v) ∧ c123 T.rf l (PL l) (xp s) (i:Nat) (k:Nat) = some v:=by
 obtain ⟨hsm,hil⟩:=nth_mem hi
 have he:s.2.2 ≠ []:=fun h => by rw [xp_nil h] at hn; cases hn
 obtain ⟨p,hp,hp2⟩:=plB_get l (nIn l) 0 i s hi
 change nth (PL l) i = some p at hp
 rw [if_neg he] at hp2
 obtain ⟨q,rfl⟩:=hp2
 have hPl:(PL l).length = l.length:=plB_len _ _ _
 have hEl:(EX l).length = l.length:=List.length_map ..
 have hin:inb ((i:Nat):Int) l.length = true:=inb_t (by omega) (by omega)
 have hnp:nth (PL l) ((i:Nat):Int).toNat = some (rowP (xp s) q):=by rw [Int.toNat_natCast]; exact hp
 have hne:nth (EX l) ((i:Nat):Int).toNat = some (xp s):=by rw [Int.toNat_natCast]; exact ex_nth hi
 have hkl:=(nth_mem hn).2
 have hnn:nth (xp s) ((k:Nat):Int).toNat = some n:=by rw [Int.toNat_natCast]; exact hn
 have hinx:inb ((k:Nat):Int) (xp s).length = true:=inb_t (by omega) (by omega)
 have hgt:decide ((((xp s).length:Nat):Int) > 0) = true:=dt (by omega)
 by_cases h3:n.1 = 3
 · have hx:=(xp_ok F hsm (nth_mem hn).1).2 h3
   obtain ⟨t,ht,htn⟩:=nm_at hx
   obtain ⟨v,p,g1,g2,g3,g4,_,g5,g6⟩:=root_ok F hM (rk l t.1 + 1) ((nmS l).idxOf n.2.2.2.2.2) t ht (fun _ => by omega)
   have hto:assocGet (CT.eqK .str) 0 M n.2.2.2.2.2 = (((nmS l).idxOf n.2.2.2.2.2:Nat):Int):=hM _ hx
   have hto2:fndS l n.2.2.2.2.2 = (((nmS l).idxOf n.2.2.2.2.2:Nat):Int):=if_pos hx
   have htl:=(nth_mem ht).2
   have hint:inb (((nmS l).idxOf n.2.2.2.2.2:Nat):Int) l.length = true:=inb_t (by omega) (by omega)
   have hnt:nth (PL l) (((nmS l).idxOf n.2.2.2.2.2:Nat):Int).toNat = some p:=by rw [Int.toNat_natCast]; exact g1
   refine ⟨v,g2,or80 ?_,or123 ?_⟩
   · simp only [r80,hEl,hPl,hin,hne,cond_true,bind_some,hgt,hinx,hnn,bt h3]
     erw [hto]
     rw [hint,cond_true,hnt,bind_some,wr_pred (by omega),g5]; rfl
   · simp only [r123,hinx,hnn,cond_true,bind_some,bt h3,Find_eq (show l.length ≤ 100000 by have:=F.len; omega),hto2,g6]
 · obtain ⟨v,hv,hrow⟩:=rowP_get (xp s) q k hkl
   have hrv:nth (rowP (xp s) q) ((k:Nat):Int).toNat = some v:=by rw [Int.toNat_natCast]; exact hrow
   have hri:inb ((k:Nat):Int) (rowP (xp s) q).length = true:=by rw [rowP_len]; exact hinx
   refine ⟨v,hv,or80 ?_,or123 ?_⟩
   · simp only [r80,hEl,hPl,hin,hne,cond_true,bind_some,hgt,hinx,hnn,bf h3,cond_false,hnp,hri,hrv]
   · simp only [r123,hinx,hnn,cond_true,bind_some,bf h3,cond_false,hPl,hin,hnp,hri,hrv]
end
noncomputable def rtV (l:List Sm) (i:Nat):Int:=(c122 T.rf l (PL l) (i:Nat)).getD 0
noncomputable def ndV (l:List Sm) (x:List Nd) (i:Nat) (k:Int):Int:=(c123 T.rf l (PL l) x (i:Nat) k).getD 0
section
variable {l:List Sm} (F:Fine l) {M:List (List UInt8 × Int)} (hM:Gets M (nmS l))
include F hM
theorem rtV_ok {i:Nat} {s:Sm} (hi:nth l i = some s):∃ p:List Int,nth (PL l) i = some p ∧ p ≠ [] ∧ p.length ≤ 5001 ∧ 0 ≤ rtV l i ∧
  c80 T.rf (PL l) (EX l) M (i:Nat) ((p.length:Int) - 1) = some (PL l,EX l,M,rtV l i) ∧ c122 T.rf l (PL l) (i:Nat) = some (rtV l i):=by
 obtain ⟨v,p,h1,h2,h3,h4,_,h5,h6⟩:=root_ok F hM (rk l s.1 + 1) i s hi (fun _ => by omega)
 have:rtV l i = v:=by rw [rtV,h6]; rfl
 exact ⟨p,h1,h3,h4,by rw [this]; exact h2,by rw [this]; exact h5,by rw [this]; exact h6⟩
theorem ndV_ok {i:Nat} {s:Sm} (hi:nth l i = some s) {k:Int} (hk:0 ≤ k ∧ k < (xp s).length):0 ≤ ndV l (xp s) i k ∧
  c80 T.rf (PL l) (EX l) M (i:Nat) k = some (PL l,EX l,M,ndV l (xp s) i k) ∧ c123 T.rf l (PL l) (xp s) (i:Nat) k = some (ndV l (xp s) i k):=by
 obtain ⟨j,rfl⟩:∃ j:Nat,k = j:=⟨k.toNat,by omega⟩
 obtain ⟨n,hn⟩:∃ n,nth (xp s) j = some n:=⟨_,nth_t (by omega)⟩
 obtain ⟨v,h1,h2,h3⟩:=node_ok F hM hi hn
 have:ndV l (xp s) i (j:Nat) = v:=by rw [ndV,h3]; rfl
 exact ⟨by rw [this]; exact h1,by rw [this]; exact h2,by rw [this]; exact h3⟩
end
end Go.Proofs.YtadonikkibahnaaGreat.R
