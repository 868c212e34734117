/-
  OUR OWN: the laws TypesParts and TypesPick come to true.
-/
import Derived.Test.YtomofgclaiaikaaTypT
import Derived.Test.YtomofgclaiaikaaProgT
import Derived.Test.YtomofgclaiaikaaResOk
namespace Go.Proofs.Ytomofgclaiaikaa.R
open Go Go.Bm Go.Proofs
set_option linter.unusedVariables false
set_option linter.unusedSimpArgs false
set_option maxRecDepth 4000

theorem plive_eq : c1 T.rf = some true := live_run

theorem Parts_loop {e : List Nd} {S : List Pm} {U : List Un} (hE : EnvOk S U) (hm : mayB e = true) {t : Tr} (ht : Emb e (e.length - 1) t) (hb : okT S U t = true) : ∀ (suf pre : List Nd), e = pre ++ suf →
    k122 T.rb e S U (pre.length : Nat) = some (.inr ())
  | [], pre, h => ob122 (by rw [h]; simp only [b122, lt_end, lt_self, List.append_nil, cond_false])
  | n :: suf, pre, h => ob122 (by
    have hl := (may_P hm).len
    have hil : pre.length < e.length := by rw [h]; simp
    have ih := Parts_loop hE hm ht hb suf (pre ++ [n]) (by rw [h]; simp)
    have hn : nth e pre.length = some n := by rw [h, nth_getElem?]; simp
    obtain ⟨u, hu⟩ := may_emb (may_P hm) (pre.length + 1) pre.length (by omega) hil
    have hsub := subE_flat hm hil hu
    simp only [b122, dt (show ((pre.length : Nat) : Int) < ((e.length : Nat) : Int) by omega), cond_true, refSub_eq (show e.length ≤ 1000000 by omega), Option.bind_some, OfTy_eq hE (show (subE e (pre.length : Nat)).length ≤ 1000000 by have := subE_len (e := e) (pre.length : Nat); omega), inb_nat, dt hil, Int.toNat_natCast, hn, next_mid pre n (by omega), ih]
    by_cases h28 : n.1 = 28
    · rw [nbt h28, cond_false]
    · have hop : u.op ≠ 28 := by rw [← emb_op hu, opAt_of hn]; exact h28
      obtain ⟨k1, k2⟩ := part_may hm hu hop
      have hbu : okT S U u = true := by
        cases hc : okT S U u
        · rw [ok_up S U hm hil (fun t ht => by rw [emb_one t u _ ht hu]; exact hc) t ht] at hb; cases hb
        · rfl
      rw [nbf h28, cond_true, hsub, (ofTy_tree S U k1 k2).1 hbu, nbt rfl, cond_false])

theorem TypesParts_eq (e : List Nd) (S : List Pm) (U : List Un) : c0 T.rf e S U = some true := or0 (by
  simp only [r0, plive_eq, Option.bind_some]
  by_cases h1 : e.length ≤ 300
  case neg => rw [dt (by omega), cond_true]
  by_cases h2 : S.length ≤ 60
  case neg => rw [df (by omega), cond_false, dt (by omega), cond_true]
  rw [df (by omega), cond_false, df (by omega), cond_false, Small_eq, Option.bind_some]
  cases hs : smallB (U, [], [])
  · rfl
  have hP := small_P hs
  have hE : EnvOk S U := ⟨by omega, by have := hP.units; simp only at this; omega, fun u hu => by have := (hP.unit u hu).ins; omega⟩
  rw [Bool.not_true, cond_false, OfTy_eq hE (by omega), Option.bind_some]
  cases hm : mayB e
  · rw [ofTy_not S U hm]; rfl
  obtain ⟨t, ht, _⟩ := may_tree hm
  have hnm := norm_may hm
  obtain ⟨g1, g2⟩ := ofTy_tree S U hm ht
  obtain ⟨n1, _⟩ := ofTy_tree S U hnm.1 (norm_tree hm ht)
  cases hb : okT S U t
  · obtain ⟨k1, k2⟩ := g2 hb
    rw [nbf k2, cond_true, bt k1, cond_true]
  · have h0 := Parts_loop hE hm ht hb e [] rfl
    rw [show (((([] : List Nd).length : Nat)) : Int) = 0 from rfl] at h0
    rw [g1 hb, nbt rfl, cond_false, h0, Option.bind_some]
    simp only [Norm_eq (show e.length ≤ 1000000 by omega), Option.bind_some, OfTy_eq hE (show (norm e).length ≤ 1000000 by rw [hnm.2.1]; omega), n1 hb, beq_self_eq_true, cond_true])

theorem lawTypesParts : LawOk T 0 := fun d _ => ⟨true, TypesParts_eq d.1 d.2.1 d.2.2, rfl, rfl, rfl⟩

def yesE : List Nd := [(2, -1, -1, -1, 1, [])]
def yesT : Tr := .mk (2, -1, -1, -1, 1, []) []
theorem yes_may : mayB yesE = true := by decide +kernel
theorem yes_tree : Emb yesE (yesE.length - 1) yesT := ⟨(2, -1, -1, -1, 1, []), rfl, rfl, rfl, trivial⟩

theorem operT2 (x y : Int) : operT 0 [x, y] true 0 = if x = y then some y else none := by
  by_cases h : x = y
  · subst h; simp [operT]
  · have h' : ¬ y = x := fun e => h e.symm
    simp [operT, h, h']

theorem arrow_T (S : List Pm) (U : List Un) (ta tb : Tr) : okT S U (.mk (19, -1, -1, -1, 0, []) [ta, tb]) = (okT S U ta && (okT S U tb && decide (typT S U ta = typT S U tb))) ∧
    (typT S U ta = typT S U tb → typT S U (.mk (19, -1, -1, -1, 0, []) [ta, tb]) = typT S U ta) := by
  have hn : nodeT S U 19 ([] : List UInt8) [typT S U ta, typT S U tb] (callTs S U [ta, tb]) = if typT S U ta = typT S U tb then (typT S U tb, 0) else (0, 10) := by
    show (match operT 0 [typT S U ta, typT S U tb] true 0 with
      | none => ((0, 10) : Int × Int)
      | some is => (if (0 : Int) ≠ 0 then (0 : Int) else is, 0)) = _
    rw [operT2]
    by_cases h : typT S U ta = typT S U tb
    · rw [if_pos h, if_pos h]; rfl
    · rw [if_neg h, if_neg h]
  refine ⟨?_, fun h => ?_⟩
  · rw [okT_eq]
    simp only [okTs, typTs, hn, Bool.and_true]
    by_cases h : typT S U ta = typT S U tb
    · rw [if_pos h, dt h, dt rfl, Bool.and_assoc]
    · rw [if_neg h, df h, df (by decide), Bool.and_assoc]
  · rw [typT_eq]
    simp only [typTs, hn]
    rw [if_pos h, h]

theorem if_T (S : List Pm) (U : List Un) (ta tb : Tr) : okT S U (.mk (26, -1, -1, -1, 0, []) [yesT, ta, tb]) = (okT S U ta && (okT S U tb && decide (typT S U ta = typT S U tb))) ∧
    (typT S U ta = typT S U tb → typT S U (.mk (26, -1, -1, -1, 0, []) [yesT, ta, tb]) = typT S U ta) := by
  have hy : typT S U yesT = 1 := by rw [yesT, typT_eq, typTs]; rfl
  have hyo : okT S U yesT = true := by rw [yesT, okT_eq, typTs, okTs]; rfl
  have hn : nodeT S U 26 ([] : List UInt8) [1, typT S U ta, typT S U tb] (callTs S U [yesT, ta, tb]) = if typT S U ta = typT S U tb then (typT S U ta, 0) else (0, 10) := by
    show (if (1 : Int) ≠ 1 then ((0, 10) : Int × Int) else if typT S U ta ≠ typT S U tb then (0, 10) else (typT S U ta, 0)) = _
    rw [if_neg (by decide)]
    by_cases h : typT S U ta = typT S U tb
    · rw [if_neg (by intro hh; exact hh h), if_pos h]
    · rw [if_pos h, if_neg h]
  refine ⟨?_, fun h => ?_⟩
  · rw [okT_eq]
    simp only [okTs, typTs, hy, hyo, hn, Bool.and_true, Bool.true_and]
    by_cases h : typT S U ta = typT S U tb
    · rw [if_pos h, dt h, dt rfl, Bool.and_assoc]
    · rw [if_neg h, df h, df (by decide), Bool.and_assoc]
  · rw [typT_eq]
    simp only [typTs, hy, hn]
    rw [if_pos h]

theorem TypesPick_eq (a b : List Nd) (S : List Pm) : c109 T.rf a b S = some true := or109 (by
  simp only [r109, plive_eq, Option.bind_some]
  by_cases h1 : a.length ≤ 100
  case neg => rw [dt (by omega), cond_true]
  by_cases h2 : b.length ≤ 100
  case neg => rw [df (by omega), cond_false, dt (by omega), cond_true]
  by_cases h3 : S.length ≤ 30
  case neg => rw [df (by omega), cond_false, df (by omega), cond_false, dt (by omega), cond_true]
  have hE : EnvOk S [] := ⟨by omega, by simp, by simp⟩
  have hyes : c28 T.rf 2 1 ([] : List UInt8) [] = some yesE := refJoin_eq (by simp [total]) (by simp)
  have yl : yesE.length = 1 := rfl
  have j1 : c28 T.rf 19 0 ([] : List UInt8) [a, b] = some (join 19 0 [] [a, b]) := refJoin_eq (by rw [total2]; omega) (by simp)
  have j2 : c28 T.rf 26 0 ([] : List UInt8) [yesE, a, b] = some (join 26 0 [] [yesE, a, b]) := refJoin_eq (by rw [total3]; omega) (by simp)
  have l1 : (join 19 0 [] [a, b]).length ≤ 1000000 := by have := joinl (op := 19) (n := 0) (nm := []) (ps := [a, b]); rw [total2] at this; omega
  have l2 : (join 26 0 [] [yesE, a, b]).length ≤ 1000000 := by have := joinl (op := 26) (n := 0) (nm := []) (ps := [yesE, a, b]); rw [total3] at this; omega
  rw [df (by omega), cond_false, df (by omega), cond_false, df (by omega), cond_false, j1, Option.bind_some, hyes, Option.bind_some, j2, Option.bind_some, refMay_eq (by omega), Option.bind_some]
  cases ha : mayB a
  · rfl
  rw [Bool.not_true, cond_false, refMay_eq (by omega), Option.bind_some]
  cases hb : mayB b
  · rfl
  rw [Bool.not_true, cond_false, refMay_eq l1, Option.bind_some]
  cases hm1 : mayB (join 19 0 [] [a, b])
  · rfl
  rw [Bool.not_true, cond_false, refMay_eq l2, Option.bind_some]
  cases hm2 : mayB (join 26 0 [] [yesE, a, b])
  · rfl
  obtain ⟨ta, hta, _⟩ := may_tree ha
  obtain ⟨tb, htb, _⟩ := may_tree hb
  have t1 := (join2_tree (op := 19) (n := 0) (nm := []) (by omega) hta htb (by omega) (by omega)).2.2
  have t2 := join3_tree (n := 0) (nm := []) yes_tree hta htb (by omega) (by omega) (by omega)
  rw [← join2 (op := 19) (n := 0) (nm := []) (by omega) ha hb] at t1
  rw [← join3 (n := 0) (nm := []) yes_may ha hb] at t2
  obtain ⟨a1, a2⟩ := ofTy_tree S [] ha hta
  obtain ⟨b1, b2⟩ := ofTy_tree S [] hb htb
  obtain ⟨c1, c2⟩ := ofTy_tree S [] hm1 t1
  obtain ⟨d1, d2⟩ := ofTy_tree S [] hm2 t2
  obtain ⟨e1, e2⟩ := arrow_T S [] ta tb
  obtain ⟨f1, f2⟩ := if_T S [] ta tb
  rw [e1] at c1 c2
  rw [f1] at d1 d2
  rw [Bool.not_true, cond_false, OfTy_eq hE (by omega), Option.bind_some, OfTy_eq hE (by omega), Option.bind_some, OfTy_eq hE l1, Option.bind_some, OfTy_eq hE l2, Option.bind_some]
  have wrong : (okT S [] ta && (okT S [] tb && decide (typT S [] ta = typT S [] tb))) = false → ((ofTy (join 19 0 [] [a, b]) S []).2 != 0) = true ∧ ((ofTy (join 26 0 [] [yesE, a, b]) S []).2 != 0) = true := fun hh => ⟨nbf (c2 hh).2, nbf (d2 hh).2⟩
  cases ho : okT S [] ta
  · obtain ⟨w1, w2⟩ := wrong (by rw [ho]; rfl)
    rw [bf (a2 ho).2, cond_false, w1, w2]; rfl
  cases ho2 : okT S [] tb
  · obtain ⟨w1, w2⟩ := wrong (by rw [ho, ho2]; rfl)
    rw [a1 ho, bt rfl, cond_true, bf (b2 ho2).2, cond_false, w1, w2]; rfl
  by_cases hty : typT S [] ta = typT S [] tb
  · rw [a1 ho, b1 ho2, c1 (by rw [ho, ho2, dt hty]; rfl), d1 (by rw [ho, ho2, dt hty]; rfl), e2 hty, f2 hty]
    simp only [bt hty, beq_self_eq_true, cond_true]
  · obtain ⟨w1, w2⟩ := wrong (by rw [ho, ho2, df hty]; rfl)
    rw [a1 ho, b1 ho2, w1, w2]
    simp only [bf hty, beq_self_eq_true, cond_true, cond_false])

theorem lawTypesPick : LawOk T 109 := fun d _ => ⟨true, TypesPick_eq d.1 d.2.1 d.2.2, rfl, rfl, rfl⟩

end Go.Proofs.Ytomofgclaiaikaa.R
