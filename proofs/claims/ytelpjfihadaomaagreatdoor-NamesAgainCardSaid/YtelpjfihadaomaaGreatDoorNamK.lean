import Derived.Test.YtelpjfihadaomaaGreatDoorNamI
open Option (bind_some)
namespace Go.Proofs.YtelpjfihadaomaaGreatDoor.R
open Go Go.Bm Go.Proofs
set_option linter.unusedVariables false
set_option linter.unusedSimpArgs false
set_option maxRecDepth 4000
theorem V7 {S G:List Str}:∀ {e:List Nd},known S G e = 0 ↔ ∀ n ∈ e,(n.1 = 3 → n.2.2.2.2.2 ∈ S ∨ n.2.2.2.2.2 ∈ G) ∧ n.1 ≠ 27
 | [] => by simp [known]
 | n :: r => by
   have ih:=V7 (S:=S) (G:=G) (e:=r)
   rw [known]
   constructor
   · intro h m hm
     split at h
     · omega
     rename_i h1
     split at h
     · omega
     rename_i h2
     rcases List.mem_cons.1 hm with rfl | hm
     · refine ⟨fun h3 => ?_,h2⟩
       by_cases hS:m.2.2.2.2.2 ∈ S
       · exact .inl hS
       · by_cases hG:m.2.2.2.2.2 ∈ G
         · exact .inr hG
         · exact absurd ⟨h3,hS,hG⟩ h1
     · exact ih.1 h m hm
   · intro h
     have hn:=h n List.mem_cons_self
     rw [if_neg (fun g => by rcases hn.1 g.1 with q | q; exact g.2.1 q; exact g.2.2 q),if_neg hn.2]
     exact ih.2 fun m hm => h m (List.mem_cons_of_mem _ hm)
theorem a8u {S G:List Str}:∀ {l:List (List Nd)},Q3 S G l = 0 → ∀ e ∈ l,known S G e = 0
 | [],h => by simp
 | e :: r,h => by
   rw [Q3] at h
   split at h
   · rename_i h0
     intro y hy
     rcases List.mem_cons.1 hy with rfl | hy
     · exact h0
     · exact a8u h y hy
   · rename_i h0; exact absurd h h0
theorem a8v {S G:List Str} {x:Itm} (h:S1 S G x = 0):known S G x.2.2.2.1 = 0 ∧ known S G x.2.2.2.2.1 = 0 ∧ Q3 S G x.2.2.2.2.2 = 0:=by
 unfold S1 at h
 split at h
 · rename_i h1
   split at h
   · rename_i h2; exact ⟨h1,h2,h⟩
   · rename_i h2; exact absurd h h2
 · rename_i h1; exact absurd h h1
theorem b7X {S G:List Str} {x:Itm} (h1:known S G x.2.2.2.1 = 0) (h2:known S G x.2.2.2.2.1 = 0) (h3:x.2.2.2.2.2 = []):S1 S G x = 0:=by
 rw [S1,if_pos h1,if_pos h2,h3]; rfl
theorem b3K (names:List Str) (by_:List (List Nd)) (Q:Int → Str → Prop):∀ (l o:List Nd) (at_:List Int),(∀ n ∈ o,Q n.1 n.2.2.2.2.2) →
  (∀ n ∈ l,(n.1 = 3 ∧ 0 ≤ j7 n.2.2.2.2.2 names 0 → ∀ m ∈ norm (by_.getD (j7 n.2.2.2.2.2 names 0).toNat []),Q m.1 m.2.2.2.2.2) ∧ (¬ (n.1 = 3 ∧ 0 ≤ j7 n.2.2.2.2.2 names 0) → Q n.1 n.2.2.2.2.2)) →
  ∀ n ∈ Y9 names by_ l o at_,Q n.1 n.2.2.2.2.2
 | [],o,at_,ho,hl => ho
 | n :: r,o,at_,ho,hl => by
   rw [Y9]
   refine b3K names by_ Q r _ _ ?_ (fun m hm => hl m (List.mem_cons_of_mem _ hm))
   have hn:=hl n List.mem_cons_self
   intro m hm
   split at hm
   · rename_i hc
     rcases List.mem_append.1 hm with hm | hm
     · exact ho m hm
     · obtain ⟨q,hq,rfl⟩:=List.mem_map.1 hm
       exact hn.1 hc q hq
   · rename_i hc
     rcases List.mem_append.1 hm with hm | hm
     · exact ho m hm
     · simp at hm
       subst hm
       rw [a5m,a1T]
       exact hn.2 hc
theorem a3T (x:Str) (b:List Str):∀ (a:List Str) (i:Nat),x ∈ a → ∃ j,j < a.length ∧ j7 x (a ++ b) i = ((i + j:Nat):Int)
 | [],i,h => by simp at h
 | y :: r,i,h => by
   rw [List.cons_append,j7]
   by_cases e:y = x
   · rw [if_pos e]; exact ⟨0,by simp,by simp⟩
   · rw [if_neg e]
     obtain ⟨j,h1,h2⟩:=a3T x b r (i + 1) (by
      rcases List.mem_cons.1 h with h | h
      · exact absurd h.symm e
      · exact h)
     exact ⟨j + 1,by simp; omega,by rw [h2]; congr 1; omega⟩
theorem b8k (x:Str):∀ (a:List Str) (i:Nat),x ∈ a → 0 ≤ j7 x a i:=fun a i h => by
 obtain ⟨j,_,h2⟩:=a3T x [] a i h
 rw [List.append_nil] at h2; omega
theorem b8m {S G G0:List Str} {k:Unt} {x:Itm} (hl:k.2.2.1.length = x.2.2.2.2.2.length) (hx:∀ a ∈ x.2.2.2.2.2,norm a = a ∧ known S G0 a = 0) (h0:∀ g ∈ G0,g ∈ G) {pre:List Str} (hg:∀ g ∈ pre,g ∈ gn k.2.2.2.2.2.2.2)
  (hp:∀ g ∈ pre,(x.2.1 ++ [95]) ++ g ∈ G) {e:List Nd} (hn:norm e = e) (hk:known (nmP k.2.2.1) pre e = 0) (hm:s8 (put e (K1 k) (K0 k x)) = true):known S G (put e (K1 k) (K0 k x)) = 0:=by
 have hc:s8 e = true ∧ (K1 k).length = (K0 k x).length ∧ (K0 k x).all s8 = true:=by
  unfold put at hm
  split at hm
  · assumption
  · simp [s8] at hm
 have hpt:put e (K1 k) (K0 k x) = Y9 (K1 k) (K0 k x) (norm e) [] []:=by unfold put; rw [if_pos hc]
 rw [hpt,hn]
 refine V7.2 (b3K _ _ (fun op nm => (op = 3 → nm ∈ S ∨ nm ∈ G) ∧ op ≠ 27) e [] [] (by simp) fun n hn' => ⟨fun hpl m hm' => ?_,fun hnp => ?_⟩)
 · have hq:=(V7.1 hk n hn').1 hpl.1
   have hil:(nmP k.2.2.1).length = x.2.2.2.2.2.length:=by rw [← hl]; simp [nmP]
   have hno:K1 k = nmP k.2.2.1 ++ gn k.2.2.2.2.2.2.2:=rfl
   have hby:K0 k x = x.2.2.2.2.2 ++ (gn k.2.2.2.2.2.2.2).map fun g => join 3 0 ((x.2.1 ++ [95]) ++ g) []:=rfl
   by_cases hi:n.2.2.2.2.2 ∈ nmP k.2.2.1
   · obtain ⟨j,j1,j2⟩:=a3T n.2.2.2.2.2 (gn k.2.2.2.2.2.2.2) (nmP k.2.2.1) 0 hi
     rw [← hno] at j2
     have hjl:j < x.2.2.2.2.2.length:=by omega
     have hget:(K0 k x).getD (j7 n.2.2.2.2.2 (K1 k) 0).toNat [] = x.2.2.2.2.2[j]:=by
      rw [j2,hby,List.getD_eq_getElem?_getD,show (((0 + j:Nat):Int)).toNat = j by omega,List.getElem?_append_left hjl,List.getElem?_eq_getElem hjl]; rfl
     rw [hget] at hm'
     obtain ⟨a1,a2⟩:=hx x.2.2.2.2.2[j] (List.getElem_mem hjl)
     rw [a1] at hm'
     obtain ⟨b1,b2⟩:=V7.1 a2 m hm'
     exact ⟨fun h3 => (b1 h3).imp id (h0 _),b2⟩
   · have hgp:n.2.2.2.2.2 ∈ pre:=hq.resolve_left hi
     obtain ⟨j,j1,j2⟩:=a8Q n.2.2.2.2.2 (K1 k) 0 hpl.2
     have hjl:(nmP k.2.2.1).length ≤ j:=by
      rcases Nat.lt_or_ge j (nmP k.2.2.1).length with h | h
      · exfalso
        rw [hno,List.getElem?_append_left h] at j2
        exact hi (List.mem_of_getElem? j2)
      · exact h
     rw [hno,List.getElem?_append_right hjl] at j2
     have hget:(K0 k x).getD (j7 n.2.2.2.2.2 (K1 k) 0).toNat [] = [a9K ((x.2.1 ++ [95]) ++ n.2.2.2.2.2)]:=by
      rw [j1,hby,List.getD_eq_getElem?_getD,show (((0 + j:Nat):Int)).toNat = j by omega,List.getElem?_append_right (by omega),List.getElem?_map,← hil,j2,← b3g]; rfl
     rw [hget,(c2L (by simp)).2,List.mem_singleton] at hm'
     subst hm'
     exact ⟨fun _ => .inr (hp _ hgp),by simp [a9K]⟩
 · have hq:=V7.1 hk n hn'
   refine ⟨fun h3 => ?_,hq.2⟩
   have hin:n.2.2.2.2.2 ∈ K1 k:=by
    show _ ∈ nmP k.2.2.1 ++ gn k.2.2.2.2.2.2.2
    rcases hq.1 h3 with h | h
    · exact List.mem_append_left _ h
    · exact List.mem_append_right _ (hg _ h)
   exact absurd ⟨h3,b8k _ _ 0 hin⟩ hnp
theorem c4t {S G:List Str} (hS:∀ s ∈ S,m6 s = true) (hG:∀ s ∈ G,m6 s = true) {e:List Nd} (hm:s8 e = true) (hn:norm e = e) (hk:known S G e = 0):D5 e = true:=by
 rw [D5,hm,Bool.true_and,List.all_eq_true]
 intro n hn'
 have hnb:=(a8M hm n (by rw [hn]; exact hn')).2
 obtain ⟨k1,k2⟩:=V7.1 hk n hn'
 unfold S6
 by_cases h3:n.1 = 3
 · have:m6 n.2.2.2.2.2 = true:=by
    rcases k1 h3 with h | h
    · exact hS _ h
    · exact hG _ h
   rw [this,Bool.or_true]
 · have:n.2.2.2.2.2 = []:=by
    have hb:=of_decide_eq_true hnb
    by_cases h0:n.2.2.2.2.2 = []
    · exact h0
    · rcases hb.2.2.2.2.2.1 h0 with h | h
      · exact absurd h h3
      · exact absurd h k2
   rw [this]; rfl
theorem itB {x:Itm} (h:ItF x):M3 x = true:=by
 obtain ⟨kd,nm,ty,e,f,gs⟩:=x
 cases h with
 | ag k nm' ty' e' f' a =>
   simp only at k nm' ty' e' f' a
   subst nm'; subst ty'; subst f'; subst a
   rcases k with k | k <;> subst k <;> simp [M3,e']
 | gh k nm' ty' e' f' a =>
   simp only at k nm' ty' e' f' a
   subst k; subst f'; subst a
   rcases ty' with ty' | ty' <;> subst ty' <;> simp [M3,e',nm']
 | md k nm' ty' e' f' a =>
   simp only at k nm' ty' e' f' a
   subst k; subst ty'; subst a
   simp [M3,e',f',nm']
 | im k nm' ty' e' f' l a =>
   simp only at k nm' ty' e' f' l a
   subst k; subst ty'; subst e'; subst f'
   simp [M3,nm',l]
   exact a
structure Stp (S:List Str) (out:List Itm) (y:Itm):Prop where
 b:M3 y = true
 o:K3 y = y
 k:y.1 ≠ 5
 n:S1 S (gn out) y = 0
 a:H6 S out y = .inr (out ++ [y])
def Chn (S:List Str):List Itm → List Itm → Prop
 | _,[] => True
 | out,y :: r => Stp S out y ∧ Chn S (out ++ [y]) r
theorem a7R {S:List Str} {y:Itm}:∀ {l out:List Itm},Chn S out l → Stp S (out ++ l) y → Chn S out (l ++ [y])
 | [],out,h,hs => ⟨by simpa using hs,trivial⟩
 | x :: l,out,h,hs => ⟨h.1,a7R h.2 (by simpa using hs)⟩
theorem a2O {S:List Str}:∀ {l out:List Itm},Chn S out l → ∀ y ∈ l,M3 y = true ∧ K3 y = y ∧ y.1 ≠ 5
 | [],out,h => by simp
 | x :: l,out,h => by
   intro y hy
   rcases List.mem_cons.1 hy with rfl | hy
   · exact ⟨h.1.b,h.1.o,h.1.k⟩
   · exact a2O h.2 y hy
theorem b0r {U:Str → Option Unt} {S:List Str}:∀ {l out:List Itm},Chn S out l → s5 U S l out = .inr (out ++ l)
 | [],out,h => by rw [s5,List.append_nil]
 | y :: r,out,h => by
   have:=b0r (U:=U) h.2
   rw [s5,if_pos h.1.n,if_neg h.1.k,h.1.a]
   simp only [this,List.append_assoc,List.singleton_append]
theorem b6k {l:List Itm} {g:Str} (h:g ∈ gn l):∃ y ∈ l,y.1 = 3 ∧ y.2.1 = g:=by
 induction l with
 | nil => simp [gn] at h
 | cons x r ih =>
   rw [gn] at h
   split at h
   · rename_i h3
     rcases List.mem_cons.1 h with h | h
     · exact ⟨x,List.mem_cons_self,h3,h.symm⟩
     · obtain ⟨y,h1,h2⟩:=ih h; exact ⟨y,List.mem_cons_of_mem _ h1,h2⟩
   · obtain ⟨y,h1,h2⟩:=ih h; exact ⟨y,List.mem_cons_of_mem _ h1,h2⟩
theorem d1R {S:List Str} {l:List Itm} (h:Chn S [] l):∀ g ∈ gn l,m6 g = true:=by
 intro g hg
 obtain ⟨y,h1,h2,rfl⟩:=b6k hg
 cases itF (a2O h y h1).1 with
 | ag k => omega
 | gh k nm => exact nm
 | md k => omega
 | im k => omega
structure Don (k:Unt):Prop where
 c:Chn (nmP (m9 k)) [] k.2.2.2.2.2.2.2
 b:Z7 k = true
 o:K4 k = k
theorem c1o {y:Itm} (h:K3 y = y):norm y.2.2.2.1 = y.2.2.2.1 ∧ norm y.2.2.2.2.1 = y.2.2.2.2.1 ∧ y.2.2.2.2.2.map norm = y.2.2.2.2.2 :=
 ⟨congrArg (fun z:Itm => z.2.2.2.1) h,congrArg (fun z:Itm => z.2.2.2.2.1) h,congrArg (fun z:Itm => z.2.2.2.2.2) h⟩
theorem b3f {S:List Str} (hS:∀ s ∈ S,m6 s = true) {k:Unt} (hk1:k.1 = true) {x:Itm} {out0:List Itm} (hl:k.2.2.1.length = x.2.2.2.2.2.length) (hx:∀ a ∈ x.2.2.2.2.2,norm a = a ∧ known S (gn out0) a = 0) :
  ∀ (suf pre out l:List Itm),k.2.2.2.2.2.2.2 = pre ++ suf → m7 S x.2.1 (K1 k) (K0 k x) suf out = .inr l → Chn (nmP (m9 k)) pre suf → Chn S [] out → (∀ g ∈ gn out0,g ∈ gn out) → (∀ g ∈ gn pre,(x.2.1 ++ [95]) ++ g ∈ gn out) → Chn S [] l
 | [],pre,out,l,hk,h,hc,ho,h0,hp => by cases h; exact ho
 | y :: suf,pre,out,l,hk,h,hc,ho,h0,hp => by
   simp only [m7] at h
   split at h
   · cases h
   rename_i y' hy
   split at h
   · cases h
   rename_i l' ha
   obtain ⟨_,rfl⟩:=G2 ha
   obtain ⟨hst,hc'⟩:=hc
   obtain ⟨kn1,kn2,kn3⟩:=a8v hst.n
   have hse:m9 k = k.2.2.1:=by rw [m9,if_pos hk1]
   rw [hse] at kn1 kn2
   obtain ⟨n1,n2,n3⟩:=c1o hst.o
   have hgin:∀ g ∈ gn pre,g ∈ gn k.2.2.2.2.2.2.2:=fun g hg => by rw [hk,a5B]; exact List.mem_append_left _ hg
   have hG:=d1R ho
   have key:∀ e:List Nd,norm e = e → known (nmP k.2.2.1) (gn pre) e = 0 → (H7 e (K1 k) (K0 k x)).2 = true → known S (gn out) (H7 e (K1 k) (K0 k x)).1 = 0 ∧ norm (H7 e (K1 k) (K0 k x)).1 = (H7 e (K1 k) (K0 k x)).1 ∧ (e = [] → (H7 e (K1 k) (K0 k x)).1 = []) ∧ (e ≠ [] → D5 (H7 e (K1 k) (K0 k x)).1 = true):=by
    intro e e1 e2 e3
    by_cases h0e:e = []
    · have:H7 e (K1 k) (K0 k x) = ([],true):=by rw [H7,if_pos h0e]
      rw [this]
      exact ⟨rfl,a0J,fun _ => rfl,fun g => absurd h0e g⟩
    · have:H7 e (K1 k) (K0 k x) = (put e (K1 k) (K0 k x),s8 (put e (K1 k) (K0 k x))):=by rw [H7,if_neg h0e]
      rw [this] at e3 ⊢
      have hkn:=b8m (G:=gn out) hl hx h0 hgin hp e1 e2 e3
      have hnm:=c1I e3
      exact ⟨hkn,hnm,fun g => absurd g h0e,fun _ => c4t hS hG e3 hnm hkn⟩
   have hargs:y.2.2.2.2.2 = []:=by
    cases itF hst.b with
    | ag k nm ty e f a => exact a
    | gh k nm ty e f a => exact a
    | md k nm ty e f a => exact a
    | im k => exact absurd k hst.k
   unfold S5 at hy
   split at hy
   · cases hy
   rename_i hnm
   split at hy
   case isFalse => cases hy
   rename_i hpe
   simp only [Bool.and_eq_true] at hpe
   obtain ⟨a1,a2,a3,a4⟩:=key _ n1 kn1 hpe.1
   obtain ⟨b1,b2,b3,b4⟩:=key _ n2 kn2 hpe.2
   have hnmB:y.2.1 ≠ [] → m6 ((x.2.1 ++ [95]) ++ y.2.1) = true:=fun h0 => by
    cases hb:m6 ((x.2.1 ++ [95]) ++ y.2.1) with
    | true => rfl
    | false => exact absurd ⟨h0,hb⟩ hnm
   have hnB0:m6 ([]:Str) = false:=rfl
   cases hy
   have hne:∀ e:List Nd,D5 e = true → e ≠ []:=fun e he h0 => by subst h0; cases he
   have hS':Stp S out (y.1,(if y.2.1 = [] then [] else (x.2.1 ++ [95]) ++ y.2.1),y.2.2.1,(H7 y.2.2.2.1 (K1 k) (K0 k x)).1,(H7 y.2.2.2.2.1 (K1 k) (K0 k x)).1,y.2.2.2.2.2):=by
    refine ⟨itB ?_,?_,hst.k,b7X a1 b1 hargs,ha⟩
    · cases itF hst.b with
      | ag k nm ty e f a => exact .ag k (by show (if y.2.1 = [] then _ else _) = _; rw [if_pos nm]) ty (a4 (hne _ e)) (b3 f) a
      | gh k nm ty e f a =>
        have h0:y.2.1 ≠ []:=fun g => by rw [g,hnB0] at nm; cases nm
        exact .gh k (by show m6 (if y.2.1 = [] then _ else _) = _; rw [if_neg h0]; exact hnmB h0) ty (a4 (hne _ e)) (b3 f) a
      | md k nm ty e f a =>
        have h0:y.2.1 ≠ []:=fun g => by rw [g,hnB0] at nm; cases nm
        exact .md k (by show m6 (if y.2.1 = [] then _ else _) = _; rw [if_neg h0]; exact hnmB h0) ty (a4 (hne _ e)) (b4 (hne _ f)) a
      | im k => exact absurd k hst.k
    · simp only [K3,a2,b2,hargs,List.map_nil]
   refine b3f hS hk1 hl hx suf (pre ++ [y]) _ l (by simpa using hk) h hc' (a7R ho (by simpa using hS')) (fun g hg => by rw [a5B]; exact List.mem_append_left _ (h0 g hg)) (fun g hg => ?_)
   rw [a5B] at hg ⊢
   rcases List.mem_append.1 hg with hg | hg
   · exact List.mem_append_left _ (hp g hg)
   · obtain ⟨z,z1,z2,rfl⟩:=b6k hg
     rw [List.mem_singleton] at z1
     subst z1
     have h0:z.2.1 ≠ []:=fun g => by
      cases itF hst.b with
      | ag k => omega
      | gh k nm => rw [g,hnB0] at nm; cases nm
      | md k => omega
      | im k => omega
     refine List.mem_append_right _ ?_
     rw [gn,if_pos z2]
     show _ ∈ (if z.2.1 = [] then _ else _) :: _
     rw [if_neg h0]
     exact List.mem_cons_self
theorem b0L {U:Str → Option Unt} (hU:∀ n k,U n = some k → Don k) {S:List Str} (hS:∀ s ∈ S,m6 s = true):∀ (suf out l:List Itm),s5 U S suf out = .inr l → (∀ x ∈ suf,M3 x = true ∧ K3 x = x) → Chn S [] out → Chn S [] l
 | [],out,l,h,hs,ho => by cases h; exact ho
 | x :: suf,out,l,h,hs,ho => by
   obtain ⟨x1,x2⟩:=hs x List.mem_cons_self
   simp only [s5] at h
   split at h
   case isFalse => cases h
   rename_i hkn
   split at h
   · cases h
   rename_i l' ha
   refine b0L hU hS suf l' l h (fun y hy => hs y (List.mem_cons_of_mem _ hy)) ?_
   split at ha
   · unfold B4 at ha
     split at ha
     · cases ha
     rename_i k hk
     split at ha
     case isFalse => cases ha
     rename_i hk1
     split at ha
     case isFalse => cases ha
     rename_i hlen
     obtain ⟨_,_,kn3⟩:=a8v hkn
     obtain ⟨_,_,o3⟩:=c1o x2
     refine b3f hS hk1 (out0:=out) hlen (fun a haa => ⟨?_,a8u kn3 a haa⟩) k.2.2.2.2.2.2.2 [] out l' rfl ha (hU _ k hk).c ho (fun g hg => hg) (fun g hg => by simp [gn] at hg)
     rw [← o3] at haa
     obtain ⟨b,_,rfl⟩:=List.mem_map.1 haa
     exact a0K b
   · rename_i h5
     obtain ⟨_,rfl⟩:=G2 ha
     exact a7R ho ⟨x1,x2,h5,by simpa using hkn,by simpa using ha⟩
theorem a8l {U:Str → Option Unt} {S:List Str}:∀ {suf out l:List Itm},s5 U S suf out = .inr l → out.length ≤ 200 → l.length ≤ 200
 | [],out,l,h,ho => by cases h; exact ho
 | x :: suf,out,l,h,ho => by
   simp only [s5] at h
   split at h
   case isFalse => cases h
   split at h
   · cases h
   rename_i l' ha
   refine a8l h ?_
   split at ha
   · exact Z9 ha ho
   · exact (G2 ha).1
theorem c2F {u:Unt} (h:Z7 u = true):∀ s ∈ nmP (m9 u),m6 s = true:=by
 have hF:=unF h
 have hpr:∀ p:Pm,a2p p = true → m6 p.1 = true:=fun p hp => by
  unfold a2p at hp; simp only [Bool.and_eq_true] at hp; exact hp.1
 intro s hs
 obtain ⟨p,hp,rfl⟩:=List.mem_map.1 hs
 unfold m9 at hp
 split at hp
 · exact hpr p (hF.ib p hp)
 · rename_i h1
   have h1:u.1 = false:=by simpa using h1
   rcases List.mem_append.1 hp with hp | hp
   · rcases List.mem_append.1 hp with hp | hp
     · exact hpr p (hF.ib p hp)
     · rw [List.mem_singleton.1 hp]; exact hpr _ (hF.o h1)
   · exact hpr p (hF.vb p hp)
theorem b0R {α:Type} {f:α → α} {l:List α} (h:∀ x ∈ l,f x = x):l.map f = l:=by
 rw [List.map_congr_left h]; exact List.map_id _
theorem c2K {U:Str → Option Unt} (hU:∀ n k,U n = some k → Don k) {u u':Unt} (h:K5 U u = .inr u') (hb:Z7 u = true) (ho:K4 u = u):Don u' ∧ K5 U u' = .inr u':=by
 obtain ⟨k1,k2,l,hl,rfl,hE⟩:=S0 h
 have hF:=unF hb
 have hox:u.2.2.2.2.2.2.2.map K3 = u.2.2.2.2.2.2.2:=congrArg (fun z:Unt => z.2.2.2.2.2.2.2) ho
 have hoq:u.2.2.2.2.2.2.1.map K9 = u.2.2.2.2.2.2.1:=congrArg (fun z:Unt => z.2.2.2.2.2.2.1) ho
 have hc:Chn (nmP (m9 u)) [] l:=b0L hU (c2F hb) _ _ _ hl (fun x hx => ⟨hF.xb x hx,by
  rw [← hox] at hx
  obtain ⟨y,_,rfl⟩:=List.mem_map.1 hx
  exact b0Y y⟩) trivial
 have hll:l.length ≤ 200:=by
  have:=hF.x
  exact (a8l hl (by simp))
 have hst:m9 (a1M u l) = m9 u:=rfl
 refine ⟨⟨by rw [hst]; exact hc,?_,?_⟩,?_⟩
 · have h':=hb
   unfold Z7 at h' ⊢
   simp only [Bool.and_eq_true,decide_eq_true_eq] at h' ⊢
   obtain ⟨h1,h2,h3,h4,_,h8⟩:=h'
   exact ⟨h1,h2,h3,h4,⟨hll,List.all_eq_true.2 fun y hy => (a2O hc y hy).1⟩,h8⟩
 · have:l.map K3 = l:=b0R fun y hy => (a2O hc y hy).2.1
   show (u.1,u.2.1,u.2.2.1,u.2.2.2.1,u.2.2.2.2.1,u.2.2.2.2.2.1,u.2.2.2.2.2.2.1.map K9,l.map K3) = _
   rw [this,hoq]; rfl
 · have hi:=b0r (U:=U) hc
   rw [List.nil_append] at hi
   have e1:(a1M u l).2.1 = u.2.1:=rfl
   have e2:(a1M u l).2.2.1 = u.2.2.1:=rfl
   have e3:(a1M u l).2.2.2.2.2.2.1 = u.2.2.2.2.2.2.1:=rfl
   have e4:(a1M u l).2.2.2.2.2.2.2 = l:=rfl
   rw [K5,e1,if_neg (by simp [k1]),hst,k2,if_neg (by decide),e4,hi]
   simp only [e2,e3,hE,if_true]
   rfl
theorem b1l:∀ (suf done us:List Unt),B8 done suf = .inr us → (∀ u ∈ suf,Z7 u = true ∧ K4 u = u) → (∀ k ∈ done,Don k) → (∀ k ∈ us,Don k) ∧ ∀ r,us = done ++ r → B8 done r = .inr us
 | [],done,us,h,hs,hd => by
   cases h
   refine ⟨hd,fun r hr => ?_⟩
   have:r = []:=by simpa using hr
   subst this; rfl
 | u :: suf,done,us,h,hs,hd => by
   simp only [B8] at h
   split at h
   · cases h
   rename_i u' hU
   obtain ⟨u1,u2⟩:=hs u List.mem_cons_self
   obtain ⟨g1,g2⟩:=c2K (U:=fU done) (fun n k hk => hd k (List.mem_of_find?_eq_some hk)) hU u1 u2
   obtain ⟨i1,i2⟩:=b1l suf (done ++ [u']) us h (fun y hy => hs y (List.mem_cons_of_mem _ hy)) (fun k hk => by
    rcases List.mem_append.1 hk with hk | hk
    · exact hd k hk
    · rw [List.mem_singleton.1 hk]; exact g1)
   refine ⟨i1,fun r hr => ?_⟩
   obtain ⟨⟨r',h1,_⟩,_⟩:=Z5 h
   have:r = u' :: r':=by
    rw [h1,List.append_assoc] at hr
    exact (List.append_cancel_left hr).symm
   subst this
   simp only [B8,g2]
   exact i2 r' h1
theorem c5R {k:Unt} (h:Don k) (hk:UOk k):UIn k:=by
 have hF:=unF h.b
 refine ⟨hF.i,hF.v,hF.q,fun q hq => ?_,hF.x,fun x hx => ?_⟩
 · have hoq:k.2.2.2.2.2.2.1.map K9 = k.2.2.2.2.2.2.1:=congrArg (fun z:Unt => z.2.2.2.2.2.2.1) h.o
   have hm:s8 q.2 = true:=a8H (eqF (hF.qb q hq)).2
   have hml:=a4C hm
   rw [← hoq] at hq
   obtain ⟨q0,_,rfl⟩:=List.mem_map.1 hq
   refine ⟨by omega,?_⟩
   have hb:=b0V hm
   have:norm (K9 q0).2 = (K9 q0).2:=a0K q0.2
   rw [this] at hb
   exact hb
 · obtain ⟨a1,a2,a3⟩:=hk.nm x hx
   have hargs:x.2.2.2.2.2 = []:=by
    obtain ⟨c1,_,c3⟩:=a2O h.c x hx
    cases itF c1 with
    | ag k nm ty e f a => exact a
    | gh k nm ty e f a => exact a
    | md k nm ty e f a => exact a
    | im k => exact absurd k c3
   exact ⟨a1,a2,a3,by rw [hargs]; simp,by rw [hargs]; simp⟩
theorem ag2 (p:Prg) (j:Nat) {u:Unt} (hj:j < p.1.length) (hu:nth p.1 j = some u) (hl:u.2.2.2.2.2.2.2.length ≤ 1000):∀ (suf pre:List Itm),u.2.2.2.2.2.2.2 = pre ++ suf → (∀ x ∈ suf,x.1 ≠ 5) → c4p T.rb p (j:Nat) (pre.length:Nat) = some (.inr p)
 | [],pre,h,hs => d0p (by
   simp only [b9L,B5,dt hj,Int.toNat_natCast,hu,cond_true,bind_some]
   rw [h,j9]; rfl)
 | x :: suf,pre,h,hs => d0p (by
   have hp:pre.length < 4611686018427387904:=by rw [h] at hl; simp at hl; omega
   have ih:=ag2 p j hj hu hl suf (pre ++ [x]) (by simpa using h) (fun y hy => hs y (List.mem_cons_of_mem _ hy))
   have h1:decide (((pre.length:Nat):Int) < ((u.2.2.2.2.2.2.2.length:Nat):Int)) = true:=by rw [h]; exact g8 pre x suf
   have h2:decide (pre.length < u.2.2.2.2.2.2.2.length) = true:=by rw [h]; exact dt (by simp)
   have h3:nth u.2.2.2.2.2.2.2 pre.length = some x:=by rw [h]; exact Y7 pre x suf
   simp only [b9L,B5,dt hj,Int.toNat_natCast,hu,cond_true,bind_some,h1,h2,h3,bf (hs x List.mem_cons_self),cond_false,e9 pre x hp,ih])
theorem ag0 (p:Prg) (hp:p.1.length ≤ 1000) (hs:∀ u ∈ p.1,u.2.2.2.2.2.2.2.length ≤ 1000 ∧ ∀ x ∈ u.2.2.2.2.2.2.2,x.1 ≠ 5):∀ (k i:Nat),i + k = p.1.length → c4o T.rb p (i:Nat) = some (.inr p)
 | 0,i,h => d0o (by simp only [b9K,df (show ¬ ((i:Nat):Int) < ((p.1.length:Nat):Int) by omega),cond_false])
 | k + 1,i,h => d0o (by
   have hi:i < p.1.length:=by omega
   obtain ⟨g1,g2⟩:=hs p.1[i] (List.getElem_mem hi)
   have h2:=ag2 p i hi (a1D hi) g1 p.1[i].2.2.2.2.2.2.2 [] rfl g2
   rw [List.length_nil,show ((0:Nat):Int) = (0:Int) from rfl] at h2
   have ih:=ag0 p hp hs k (i + 1) (by omega)
   have hw:IntKind.i64.wrap (((i:Nat):Int) + 1) = ((i + 1:Nat):Int):=H5 (by omega)
   simp only [b9K,dt (show ((i:Nat):Int) < ((p.1.length:Nat):Int) by omega),cond_true,h2,bind_some,hw,ih])
theorem a9L (p:Prg):d2Y T.rf p = some true:=d8u (by
 obtain ⟨s,h1,h2⟩:=a1R p
 simp only [c5J,h1,bind_some,a4z]
 cases s with
 | false => rfl
 | true =>
   have hs:SzP 200 200 p:=(h2 rfl).mono (by omega) (by omega)
   simp only [Bool.not_true,cond_false,K7 hs,bind_some]
   by_cases hc:(m8 p).2.1 = 0
   case neg =>
    rw [nbf hc,a6K hc]; rfl
   rw [nbt hc]
   obtain ⟨hp,us,m,hU,hR,hm,hm1⟩:=a1r hc
   have hin:=a4H hs hp
   have hok:=a0S hU hin (by simp)
   obtain ⟨d1,d2⟩:=b1l (D9 p).1 [] us hU (fun u hu => by
    obtain ⟨v,hv,rfl⟩:=List.mem_map.1 hu
    exact ⟨b3z ((pgF hp).u v hv),b0Z v⟩) (by simp)
   have d3:=d2 us rfl
   have hsz:=b6L hs hp hU p.2.1 p.2.2
   have hul:us.length ≤ 200:=hsz.c
   have hF:=pgF hp
   have hq:S3 (us,p.2.1,p.2.2) = true:=by
    have h':=hp
    unfold S3 at h' ⊢
    simp only [Bool.and_eq_true,decide_eq_true_eq] at h' ⊢
    exact ⟨h'.1,h'.2.1,hul,List.all_eq_true.2 fun k hk => (d1 k hk).b⟩
   have ho:D9 (us,p.2.1,p.2.2) = (us,p.2.1,p.2.2):=by
    show (us.map K4,(p.2.1,p.2.2)) = _
    rw [b0R fun k hk => (d1 k hk).o]
   have hR2:m8 (us,p.2.1,p.2.2) = ((us,p.2.1,p.2.2),0,0):=by
    rw [← hR]
    conv => rhs; rw [m8,if_pos hp,hU]
    rw [m8,if_pos hq,ho]
    simp only [d3]
   have hz:=ag0 (us,p.2.1,p.2.2) (show us.length ≤ 1000 by omega) (fun u hu => ⟨by have:=(hok u hu).x; omega,fun x hx => (a2O (d1 u hu).c x hx).2.2⟩) us.length 0 (by simp)
   rw [show ((0:Nat):Int) = (0:Int) from rfl] at hz
   have hres:c66 T.rf (us,p.2.1,p.2.2) = some (m8 (us,p.2.1,p.2.2)):=a7C hsz (by omega) (fun _ u hu => by
    rw [ho] at hu
    exact c5R (d1 u hu) (hok u hu))
   have hsame:a7N T.rf (us,p.2.1,p.2.2) (us,p.2.1,p.2.2) = some true:=a2L (by omega) (by omega) hsz
   rw [hR]
   simp only [cond_false,hz,bind_some,hres,hR2,bt rfl,cond_true,hsame])
theorem lawNamesAgain:b0g T 184:=fun d _ => ⟨true,a9L d,rfl,rfl,rfl⟩
end Go.Proofs.YtelpjfihadaomaaGreatDoor.R
