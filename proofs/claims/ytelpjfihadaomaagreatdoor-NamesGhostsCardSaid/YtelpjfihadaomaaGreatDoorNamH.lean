import Derived.Test.YtelpjfihadaomaaGreatDoorNamG
open Option (bind_some)
namespace Go.Proofs.YtelpjfihadaomaaGreatDoor.R
open Go Go.Bm Go.Proofs
set_option linter.unusedVariables false
set_option linter.unusedSimpArgs false
set_option maxRecDepth 4000
theorem d6z (e:List Nd) (j:Nat) {x:Nd} (hj:j < e.length) (hx:nth e j = some x):∀ (suf pre:List Pm),(pre ++ suf).length ≤ 1000000 → c0N T.rb e (pre ++ suf) (j:Nat) (pre.length:Nat) = some (if x.1 = 3 ∧ x.2.2.2.2.2 ∈ nmP suf then .inl true else .inr ())
 | [],pre,h => d0r (by
   simp only [b9N,j9,cond_false]
   rw [if_neg (fun g => by simp [nmP] at g)])
 | y :: suf,pre,h => d0r (by
   have hp:pre.length < 4611686018427387904:=by simp at h; omega
   have ih:=d6z e j hj hx suf (pre ++ [y]) (by simpa using h)
   simp only [List.append_assoc,List.singleton_append] at ih
   simp only [b9N,g8,a5,a6,B5,dt hj,dt (show pre.length < (pre ++ y :: suf).length by simp),Y7,Int.toNat_natCast,hx,cond_true,bind_some,e9 pre y hp,ih,bs,a8L,List.mem_cons]
   by_cases h3:x.1 = 3
   · simp only [bt h3,cond_true]
     by_cases hn:x.2.2.2.2.2 = y.1
     · simp only [dt hn,cond_true]
       rw [if_pos ⟨h3,.inl hn⟩]
     · simp only [df hn,cond_false,hn,false_or]; rfl
   · simp only [bf h3,cond_false]
     rw [if_neg (fun g => h3 g.1),if_neg (fun g => h3 g.1)])
theorem d6y (S:List Pm) (hS:S.length ≤ 1000000):∀ (suf pre e:List Nd),e = pre ++ suf → e.length ≤ 1000000 → (∀ x ∈ suf,x.1 = 3 → x.2.2.2.2.2 ∉ nmP S) → c4q T.rb e S (pre.length:Nat) = some (.inr ())
 | [],pre,e,he,h,hn => d0q (by subst he; simp only [b9M,j9,cond_false])
 | x :: suf,pre,e,he,h,hn => d0q (by
   have hp:pre.length < 4611686018427387904:=by rw [he] at h; simp at h; omega
   have ih:=d6y S hS suf (pre ++ [x]) e (by simpa using he) h (fun y hy => hn y (List.mem_cons_of_mem _ hy))
   have hx:=hn x List.mem_cons_self
   subst he
   have h2:=d6z (pre ++ x :: suf) pre.length (by simp) (Y7 pre x suf) S [] (by simpa using hS)
   rw [List.nil_append,List.length_nil,show ((0:Nat):Int) = (0:Int) from rfl,if_neg (fun g => hx g.1 g.2)] at h2
   simp only [b9M,g8,cond_true,h2,bind_some,e9 pre x hp,ih])
theorem d1X {e:List Nd} {S:List Pm} (he:e.length ≤ 1000000) (hS:S.length ≤ 1000000) (hn:∀ x ∈ e,x.1 = 3 → x.2.2.2.2.2 ∉ nmP S):c3A T.rf e S = some false:=d8w (by
 have:=d6y S hS e [] e rfl he hn
 rw [List.length_nil,show ((0:Nat):Int) = (0:Int) from rfl] at this
 simp only [c5L,this,bind_some])
structure GhOk (u u':Unt):Prop where
 q:u'.2.2.2.2.2.2.1 = u.2.2.2.2.2.2.1.map K9
 l:u.2.2.2.2.2.2.1.length ≤ 1000
 e:∀ q ∈ u.2.2.2.2.2.2.1,q.2.length ≤ 1000000 ∧ (norm q.2).length = q.2.length ∧ ∀ n ∈ norm q.2,n.1 = 3 → n.2.2.2.2.2 ∉ gn u'.2.2.2.2.2.2.2
 x:u'.2.2.2.2.2.2.2.length ≤ 1000
theorem d6w (p:Prg) (i:Nat) (u u':Unt) (hi:i < p.1.length) (hu:nth p.1 i = some u) (hG:GhOk u u'):∀ (suf pre:List Eqn),u.2.2.2.2.2.2.1 = pre ++ suf → c4s T.rb p u' (i:Nat) (ghP u'.2.2.2.2.2.2.2) (pre.length:Nat) = some (.inr (p,u'))
 | [],pre,h => d0t (by
   have:decide (((pre.length:Nat):Int) < ((u'.2.2.2.2.2.2.1.length:Nat):Int)) = false:=df (by rw [hG.q,h]; simp)
   simp only [b9P,this,cond_false])
 | q :: suf,pre,h => d0t (by
   have hl:=hG.l
   have hp:pre.length < 4611686018427387904:=by rw [h] at hl; simp at hl; omega
   have ih:=d6w p i u u' hi hu hG suf (pre ++ [q]) (by simpa using h)
   have h1:decide (((pre.length:Nat):Int) < ((u'.2.2.2.2.2.2.1.length:Nat):Int)) = true:=dt (by rw [hG.q,h]; simp; omega)
   have h2:decide (pre.length < u'.2.2.2.2.2.2.1.length) = true:=by exact dt (by rw [hG.q,h]; simp)
   have h3:nth u'.2.2.2.2.2.2.1 pre.length = some (K9 q):=by rw [hG.q,h,nth_getElem?]; simp
   have h4:decide (pre.length < u.2.2.2.2.2.2.1.length) = true:=by exact dt (by rw [h]; simp)
   have h5:nth u.2.2.2.2.2.2.1 pre.length = some q:=by rw [h,nth_getElem?]; simp
   obtain ⟨e1,e2,e3⟩:=hG.e q (by rw [h]; simp)
   have hgl:=a1b u'.2.2.2.2.2.2.2
   have hx:=hG.x
   have hg:c3A T.rf (K9 q).2 (ghP u'.2.2.2.2.2.2.2) = some false:=d1X (by show (norm q.2).length ≤ 1000000; omega) (by omega) (fun x hx' h3 => by rw [a2c]; exact e3 x hx' h3)
   have hq1:(K9 q).1 = q.1:=rfl
   have hq2:(K9 q).2.length = q.2.length:=e2
   have hb1:(q.1 == q.1) = true:=beq_self_eq_true _
   have hb2:(((q.2.length:Nat):Int) != ((q.2.length:Nat):Int)) = false:=nbt rfl
   simp only [b9P,h1,h2,h3,h4,h5,B5,dt hi,Int.toNat_natCast,hu,cond_true,bind_some,hq1,hq2,hb1,hb2,Bool.not_true,cond_false,hg,e9 pre q hp,ih])
theorem d6v (p:Prg) (us:List Unt) (mn bk:Str) (hl:us.length = p.1.length) (hp:p.1.length ≤ 1000) (hG:∀ i u u',nth p.1 i = some u → nth us i = some u' → GhOk u u'):∀ (k i:Nat),i + k = us.length → c4r T.rb p (us,mn,bk) (i:Nat) = some (.inr (p,(us,mn,bk)))
 | 0,i,h => d0s (by simp only [b9O,df (show ¬ ((i:Nat):Int) < ((us.length:Nat):Int) by omega),cond_false])
 | k + 1,i,h => d0s (by
   have hi1:i < us.length:=by omega
   have hi2:i < p.1.length:=by omega
   have hu:=a1D hi2
   have hu':=a1D hi1
   have g:=hG i _ _ hu hu'
   have hx:=g.x
   have h2:=d6w p i _ _ hi2 hu g p.1[i].2.2.2.2.2.2.1 [] rfl
   rw [List.length_nil,show ((0:Nat):Int) = (0:Int) from rfl] at h2
   have hql:((us[i].2.2.2.2.2.2.1.length:Nat):Int) = ((p.1[i].2.2.2.2.2.2.1.length:Nat):Int):=by rw [g.q]; simp
   have ih:=d6v p us mn bk hl hp hG k (i + 1) (by omega)
   have hs:IntKind.i64.wrap (((i:Nat):Int) + 1) = ((i + 1:Nat):Int):=H5 (by omega)
   simp only [b9O,dt (show ((i:Nat):Int) < ((us.length:Nat):Int) by omega),B5,dt hi1,dt hi2,Int.toNat_natCast,hu,hu',cond_true,bind_some,b2k (show us[i].2.2.2.2.2.2.2.length ≤ 1000000 by omega),nbt hql,cond_false,h2,hs,ih])
theorem b4r {U:Str → Option Unt} {S G:List Str} {e:List Nd}:∀ {suf:List Nd},s9 U S G e suf = 0 → ∀ n ∈ suf,n.1 = 3 → n.2.2.2.2.2 ∉ G
 | [],h => by simp
 | m :: suf,h => by
   intro n hn h3 hG
   rw [s9] at h
   rcases List.mem_cons.1 hn with rfl | hn
   · rw [if_pos h3,if_pos hG] at h; omega
   · have:s9 U S G e suf = 0:=by
      split at h
      · split at h
        · omega
        · split at h
          · exact h
          · omega
      · split at h
        · split at h
          · omega
          · split at h
            · exact h
            · omega
        · exact h
     exact b4r this n hn h3 hG
theorem b6d {U:Str → Option Unt} {S G A:List Str}:∀ {suf:List Eqn} {O r:List Str},P6 U S G A O suf = .inr r → ∀ q ∈ suf,s9 U S G q.2 q.2 = 0
 | [],O,r,h => by simp
 | q :: suf,O,r,h => by
   simp only [P6] at h
   split at h
   · split at h
     · split at h
       · rename_i h0
         intro y hy
         rcases List.mem_cons.1 hy with rfl | hy
         · exact h0
         · exact b6d h y hy
       · cases h
     · cases h
   · cases h
theorem c3J {p:Prg} (hs:SzP 200 200 p) (hp:S3 p = true) {us:List Unt} (hU:B8 [] (D9 p).1 = .inr us):us.length = p.1.length ∧ ∀ i u u',nth p.1 i = some u → nth us i = some u' → GhOk u u':=by
 obtain ⟨⟨r,h1,h2⟩,h3⟩:=Z5 hU
 have hlen:us.length = p.1.length:=by rw [h1]; simp [h2,D9]
 refine ⟨hlen,fun i u u' hu hu' => ?_⟩
 rw [nth_getElem?] at hu hu'
 have hmem:u ∈ p.1:=List.mem_of_getElem? hu
 have hF:=unF ((pgF hp).u u hmem)
 obtain ⟨d,v',g1,g2,_,_,_⟩:=h3 i (K4 u) (by simp [D9,hu])
 simp only [List.length_nil,Nat.zero_add] at g2
 rw [hu'] at g2
 cases g2
 obtain ⟨_,_,l,hl,k4,hE⟩:=S0 g1
 have hin:=a4H hs hp (K4 u) (List.mem_map.2 ⟨u,hmem,rfl⟩)
 have hxl:u'.2.2.2.2.2.2.2 = l:=by rw [k4]; rfl
 refine ⟨by rw [k4]; rfl,by have:=hF.q; omega,fun q hq => ?_,?_⟩
 · have hm:s8 q.2 = true:=a8H (eqF (hF.qb q hq)).2
   have hml:=a4C hm
   have h0:=b6d hE (K9 q) (List.mem_map.2 ⟨q,hq,rfl⟩)
   exact ⟨by omega,(K2 hm).2.1,fun n hn h3 => by rw [hxl]; exact b4r h0 n hn h3⟩
 · have:=(a5b g1 hin).x; omega
theorem a7A (p:Prg):d2Z T.rf p = some true:=d8v (by
 obtain ⟨s,h1,h2⟩:=a1R p
 simp only [c5K,h1,bind_some,a4z]
 cases s with
 | false => rfl
 | true =>
   have hs:SzP 200 200 p:=(h2 rfl).mono (by omega) (by omega)
   simp only [Bool.not_true,cond_false,K7 hs,bind_some]
   by_cases hc:(m8 p).2.1 = 0
   case neg => rw [nbf hc]; rfl
   rw [nbt hc]
   obtain ⟨hp,us,m,hU,hR,_,_⟩:=a1r hc
   obtain ⟨g1,g2⟩:=c3J hs hp hU
   have hpl:=hs.c
   have h0:=d6v p us p.2.1 p.2.2 g1 (by omega) g2 us.length 0 (by omega)
   rw [show ((0:Nat):Int) = (0:Int) from rfl] at h0
   rw [hR]
   simp only [cond_false,nbt (show ((us.length:Nat):Int) = ((p.1.length:Nat):Int) by omega),h0,bind_some])
theorem lawNamesGhosts:b0g T 185:=fun d _ => ⟨true,a7A d,rfl,rfl,rfl⟩
end Go.Proofs.YtelpjfihadaomaaGreatDoor.R
