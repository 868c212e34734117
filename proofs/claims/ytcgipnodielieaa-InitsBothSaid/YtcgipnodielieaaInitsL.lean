/-
  OUR OWN: the laws InitsPlain, InitsOrder, InitsBoth and InitsArrow come to true.
-/
import Derived.Test.YtcgipnodielieaaInitsT
import Derived.Test.YtcgipnodielieaaResOk
namespace Go.Proofs.Ytcgipnodielieaa.R
open Go Go.Bm Go.Proofs
set_option linter.unusedVariables false
set_option linter.unusedSimpArgs false
set_option maxRecDepth 4000

theorem ilive_eq : c1 T.rf = some true := live_run

theorem lates_take : ∀ (m : Nat) (ts : List Tr), lates ts = false → lates (ts.take m) = false
  | 0, ts, h => by rw [List.take_zero, lates]
  | m + 1, [], h => by rw [List.take_nil, lates]
  | m + 1, t :: ts, h => by
    rw [lates, Bool.or_eq_false_iff] at h
    rw [List.take_succ_cons, lates, h.1, lates_take m ts h.2]; rfl
theorem lates_trs (op : Int) {ts : List Tr} (h : lates ts = false) : lates (trs op ts) = false := by
  unfold trs
  split
  · exact lates_take 1 ts h
  · exact h

mutual
theorem plain_emb {e : List Nd} (hp : ∀ (i : Nat) (n : Nd), nth e i = some n → n.1 ≠ 21) : ∀ (t : Tr) (i : Nat), Emb e i t → late t = false ∧ bad t = false
  | .mk b ks, i, ⟨n, h1, h2, h3, h4⟩ => by
    obtain ⟨k1, k2⟩ := plain_embs hp ks i _ h4
    have h21 : b.1 ≠ 21 := by rw [h2]; exact hp i n h1
    refine ⟨?_, ?_⟩
    · rw [late_eq, lateOf, k1, df h21]; cases strict b.1 <;> rfl
    · rw [bad_eq, k2, lates_trs _ k1]; simp
theorem plain_embs {e : List Nd} (hp : ∀ (i : Nat) (n : Nd), nth e i = some n → n.1 ≠ 21) : ∀ (ts : List Tr) (i : Nat) (l : List Int), Embs e i l ts → lates ts = false ∧ bads ts = false
  | [], i, l, _ => ⟨by rw [lates], by rw [bads]⟩
  | t :: ts, i, k :: l, ⟨_, _, h3, h4⟩ => by
    obtain ⟨k1, k2⟩ := plain_emb hp t _ h3
    obtain ⟨k3, k4⟩ := plain_embs hp ts i l h4
    exact ⟨by rw [lates, k1, k3]; rfl, by rw [bads, k2, k4]; rfl⟩
  | _ :: _, i, [], h => by simp [Embs] at h
end

theorem Plain_loop : ∀ (suf pre : List Nd), pre.length + suf.length ≤ 1000000 →
    k122 T.rb (pre ++ suf) (pre.length : Nat) = some (.inl true) ∨
    (k122 T.rb (pre ++ suf) (pre.length : Nat) = some (.inr ()) ∧ ∀ n ∈ suf, n.1 ≠ 21)
  | [], pre, h => .inr ⟨ob122 (by simp only [b122, lt_end, lt_self, List.append_nil, cond_false]), fun _ h => by cases h⟩
  | n :: suf, pre, h => by
    simp only [List.length_cons] at h
    have ih := Plain_loop suf (pre ++ [n]) (by simp; omega)
    simp only [List.append_assoc, List.singleton_append] at ih
    by_cases hn : n.1 = 21
    · exact .inl (ob122 (by
        simp only [b122, lt_mid, inb_mid, nth_mid, cond_true, Option.bind_some, bt hn, ilive_eq]))
    · have step : ∀ r, k122 T.rb (pre ++ n :: suf) ((pre ++ [n]).length : Nat) = some r → k122 T.rb (pre ++ n :: suf) (pre.length : Nat) = some r := fun r hr => ob122 (by
        simp only [b122, lt_mid, inb_mid, nth_mid, cond_true, Option.bind_some, bf hn, cond_false, next_mid pre n (by omega)]
        exact hr)
      rcases ih with ih | ⟨ih, h2⟩
      · exact .inl (step _ ih)
      · refine .inr ⟨step _ ih, fun q hq => ?_⟩
        rcases List.mem_cons.1 hq with rfl | hq
        · exact hn
        · exact h2 q hq

theorem InitsPlain_eq (e : List Nd) : c89 T.rf e = some true := or89 (by
  simp only [r89, ilive_eq, Option.bind_some]
  by_cases hl : e.length ≤ 300
  · rw [df (by omega), cond_false, refMay_eq (by omega), Option.bind_some]
    cases hm : mayB e
    · rfl
    rw [Bool.not_true, cond_false]
    have h0 := Plain_loop e [] (by simp; omega)
    simp only [List.nil_append, List.length_nil] at h0
    rw [show (0 : Int) = ((0 : Nat) : Int) from rfl]
    rcases h0 with h0 | ⟨h0, hp⟩
    · rw [h0]; rfl
    · rw [h0, Option.bind_some]
      obtain ⟨t, h1, _⟩ := may_tree hm
      obtain ⟨k1, k2⟩ := plain_emb (fun i n hn => hp n (by rw [nth_getElem?] at hn; exact List.mem_of_getElem? hn)) t _ h1
      simp only [Of_eq (show e.length ≤ 1000000 by omega), ofE_tree hm h1, ofT, k1, k2, Option.bind_some]
      rfl
  · rw [dt (by omega), cond_true])

theorem lawInitsPlain : LawOk T 89 := fun d _ => ⟨true, InitsPlain_eq d, rfl, rfl, rfl⟩

theorem deps_mono : ∀ (ks : List Tr) (m : Int), m ≤ deps ks m
  | [], m => by rw [deps]; omega
  | t :: r, m => by
    rw [deps]
    have := deps_mono r (if dep t > m then dep t else m)
    have h2 : m ≤ (if dep t > m then dep t else m) := by split <;> omega
    omega
theorem deps_ge : ∀ (ks : List Tr) (m : Int) (t : Tr), t ∈ ks → dep t ≤ deps ks m
  | u :: r, m, t, h => by
    rw [deps]
    rcases List.mem_cons.1 h with rfl | h
    · have := deps_mono r (if dep t > m then dep t else m)
      have h2 : dep t ≤ (if dep t > m then dep t else m) := by split <;> omega
      omega
    · exact deps_ge r _ t h

theorem dep_up {e : List Nd} (h : mayB e = true) {i : Nat} {u : Tr} (hu : Emb e i u) : dep u ≤ 40 := by
  have hi := emb_lt hu
  obtain ⟨t, ht, _, _, _, _, h6, _⟩ := may_tree h
  have hh := may_up h (fun j => ∀ t, Emb e j t → dep u ≤ dep t) (fun i n k hn hk hp t ht => by
    obtain ⟨b, ks⟩ := t
    obtain ⟨m, h1, h2, h3, h4⟩ := ht
    rw [hn] at h1
    obtain rfl := Option.some.inj h1
    obtain ⟨v, h5, h7⟩ := embs_mem _ _ h4 k hk
    have := hp v h7
    have := deps_ge ks 0 v h5
    rw [dep]; omega) (e.length - 1 - i) i (by omega) hi (fun t ht => by rw [emb_one t u i ht hu]; omega)
  have := hh t ht
  omega

theorem part_may {e : List Nd} (h : mayB e = true) {i : Nat} {u : Tr} (hu : Emb e i u) (hop : u.op ≠ 28) : mayB (flat u 0) = true ∧ Emb (flat u 0) ((flat u 0).length - 1) u := by
  have hM := may_P h
  have hi := emb_lt hu
  have hv := valid_emb hM u i hu
  have hs := hM.small i hi
  rw [sz_emb hu (i + 1) (by omega)] at hs
  have hlen := hM.len
  have hE := emb_flat u [] [] hv
  simp only [List.nil_append, List.append_nil, List.length_nil, Nat.zero_add] at hE
  refine ⟨?_, by rw [flat_len]; exact hE⟩
  rw [may_flat hv, dt (show u.size ≤ 5000 by omega), dt hop, dt (dep_up h hu)]; rfl

theorem norm_tree {e : List Nd} {t : Tr} (h : mayB e = true) (ht : Emb e (e.length - 1) t) : Emb (norm e) ((norm e).length - 1) t := by
  have hE := emb_flat t [] [] (valid_emb (may_P h) t _ ht)
  simp only [List.nil_append, List.append_nil, List.length_nil, Nat.zero_add] at hE
  rw [norm_flat h ht, flat_len]; exact hE

theorem Order_loop {e : List Nd} (hm : mayB e = true) {t : Tr} (ht : Emb e (e.length - 1) t) (hb : bad t = false) : ∀ (suf pre : List Nd), e = pre ++ suf →
    k125 T.rb e 0 (pre.length : Nat) = some (.inr ())
  | [], pre, h => ob125 (by rw [h]; simp only [b125, lt_end, lt_self, List.append_nil, cond_false])
  | n :: suf, pre, h => ob125 (by
    have hl := (may_P hm).len
    have hil : pre.length < e.length := by rw [h]; simp
    have ih := Order_loop hm ht hb suf (pre ++ [n]) (by rw [h]; simp)
    have hn : nth e pre.length = some n := by rw [h, nth_getElem?]; simp
    have hpl : (pre ++ [n]).length = pre.length + 1 := by simp
    obtain ⟨u, hu⟩ := may_emb (may_P hm) (pre.length + 1) pre.length (by omega) hil
    have hsub := subE_flat hm hil hu
    simp only [b125, dt (show ((pre.length : Nat) : Int) < ((e.length : Nat) : Int) by omega), cond_true, bt rfl, refSub_eq (show e.length ≤ 1000000 by omega), Option.bind_some, Of_eq (show (subE e (pre.length : Nat)).length ≤ 1000000 by have := subE_len (e := e) (pre.length : Nat); omega), inb_nat, dt hil, Int.toNat_natCast, hn, next_mid pre n (by omega), ih]
    by_cases h28 : n.1 = 28
    · rw [nbt h28, cond_false]
    · have hop : u.op ≠ 28 := by rw [← emb_op hu, opAt_of hn]; exact h28
      obtain ⟨k1, k2⟩ := part_may hm hu hop
      have hbu : bad u = false := by
        cases hc : bad u
        · rfl
        · rw [bad_up hm hil (fun t ht => by rw [emb_one t u _ ht hu]; exact hc) t ht] at hb; cases hb
      rw [nbf h28, cond_true, hsub, ofE_tree k1 k2, ofT, hbu]; rfl)

theorem InitsOrder_eq (e : List Nd) : c90 T.rf e = some true := or90 (by
  simp only [r90, ilive_eq, Option.bind_some]
  by_cases hl : e.length ≤ 200
  · rw [df (by omega), cond_false, refMay_eq (by omega), Option.bind_some]
    cases hm : mayB e
    · rfl
    obtain ⟨t, ht, _⟩ := may_tree hm
    have hnm := norm_may hm
    rw [Bool.not_true, cond_false, Of_eq (by omega), Norm_eq (by omega), Option.bind_some, Option.bind_some, Of_eq (by rw [hnm.2.1]; omega), Option.bind_some]
    rw [ofE_tree hm ht, ofE_tree hnm.1 (norm_tree hm ht), nbt rfl, nbt rfl, cond_false, cond_false]
    have h0 := Order_loop hm ht
    cases hb : bad t
    · have h0 := h0 hb e [] rfl
      rw [show (((([] : List Nd).length : Nat)) : Int) = 0 from rfl] at h0
      rw [show (ofT t).2 = 0 by rw [ofT, hb]; rfl, h0]; rfl
    · rw [show (ofT t).2 = 11 by rw [ofT, hb]; rfl]
      have : k125 T.rb e 11 0 = some (.inr ()) := ob125 (by
        simp only [b125]
        cases decide ((0 : Int) < ((e.length : Nat) : Int)) <;> rfl)
      rw [this]; rfl
  · rw [dt (by omega), cond_true])

theorem lawInitsOrder : LawOk T 90 := fun d _ => ⟨true, InitsOrder_eq d, rfl, rfl, rfl⟩

theorem total2 (a b : List Nd) : total [a, b] = a.length + b.length + 2 := by simp [total]; omega

theorem InitsBoth_eq (a b : List Nd) : c94 T.rf a b = some true := or94 (by
  simp only [r94, ilive_eq, Option.bind_some]
  by_cases hl : a.length ≤ 100
  case neg => rw [dt (by omega), cond_true]
  by_cases hl2 : b.length ≤ 100
  case neg => rw [df (by omega), cond_false, dt (by omega), cond_true]
  rw [df (by omega), cond_false, df (by omega), cond_false, refMay_eq (by omega), Option.bind_some]
  cases ha : mayB a
  · rfl
  rw [Bool.not_true, cond_false, refMay_eq (by omega), Option.bind_some]
  cases hb : mayB b
  · rfl
  rw [Bool.not_true, cond_false, refJoin_eq (by rw [total2]; omega) (by simp), Option.bind_some, join2 (by omega) ha hb]
  have hlen : (a ++ (b.map (mv a.length) ++ [((14 : Int), (a.length : Int) - 1, ((a.length + b.length : Nat) : Int) - 1, (-1 : Int), (0 : Int), ([] : List UInt8))])).length = a.length + b.length + 1 := by simp; omega
  rw [refMay_eq (by omega), Option.bind_some]
  cases hm : mayB (a ++ (b.map (mv a.length) ++ [((14 : Int), (a.length : Int) - 1, ((a.length + b.length : Nat) : Int) - 1, (-1 : Int), (0 : Int), ([] : List UInt8))]))
  · rfl
  obtain ⟨ta, hta, _⟩ := may_tree ha
  obtain ⟨tb, htb, _⟩ := may_tree hb
  have hj := (join2_tree (op := 14) (n := 0) (nm := []) (by omega) hta htb (by omega) (by omega)).2.2
  rw [Bool.not_true, cond_false, Of_eq (by omega), Option.bind_some, Of_eq (by omega), Option.bind_some, Of_eq (by omega), Option.bind_some, ofE_tree ha hta, ofE_tree hb htb, ofE_tree hm hj]
  simp only [ofT, bad_eq, late_eq, lates, bads, lateOf, show strict 14 = false from rfl]
  rcases Bool.eq_false_or_eq_true (bad ta) with h1 | h1 <;> rcases Bool.eq_false_or_eq_true (bad tb) with h2 | h2 <;> rcases Bool.eq_false_or_eq_true (late ta) with h3 | h3 <;> rcases Bool.eq_false_or_eq_true (late tb) with h4 | h4 <;> simp only [h1, h2, h3, h4] <;> rfl)

theorem lawInitsBoth : LawOk T 94 := fun d _ => ⟨true, InitsBoth_eq d.1 d.2, rfl, rfl, rfl⟩

def oneE : List Nd := [(1, -1, -1, -1, 1, [])]
def oneT : Tr := .mk (1, -1, -1, -1, 1, []) []
theorem one_may : mayB oneE = true := by decide +kernel
theorem one_tree : Emb oneE (oneE.length - 1) oneT := ⟨(1, -1, -1, -1, 1, []), rfl, rfl, rfl, trivial⟩

theorem InitsArrow_eq (e : List Nd) : c88 T.rf e = some true := or88 (by
  simp only [r88, ilive_eq, Option.bind_some]
  by_cases hl : e.length ≤ 200
  case neg => rw [dt (by omega), cond_true]
  rw [df (by omega), cond_false, refMay_eq (by omega), Option.bind_some]
  cases hm : mayB e
  · rfl
  rw [Bool.not_true, cond_false, refDepth_eq (by omega), Option.bind_some]
  by_cases hd : depth e ≤ 38
  case neg => rw [dt (by omega), cond_true]
  obtain ⟨t, ht, _, _, _, hdt, _, _⟩ := may_tree hm
  have hone : c27 T.rf 1 1 ([] : List UInt8) [] = some oneE := refJoin_eq (by simp [total]) (by simp)
  have ol : oneE.length = 1 := rfl
  have j1 : c27 T.rf 19 0 ([] : List UInt8) [oneE, e] = some _ := refJoin_eq (by rw [total2]; omega) (by simp)
  have j2 : c27 T.rf 19 0 ([] : List UInt8) [e, oneE] = some _ := refJoin_eq (by rw [total2]; omega) (by simp)
  have j3 : c27 T.rf 21 0 ([] : List UInt8) [e] = some _ := refJoin_eq (by simp [total]; omega) (by simp)
  rw [join2 (by omega) one_may hm] at j1
  rw [join2 (by omega) hm one_may] at j2
  rw [join1 (by omega) hm] at j3
  have t1 := (join2_tree (op := 19) (n := 0) (nm := []) (by omega) one_tree ht (by omega) (by omega)).2.2
  have t2 := (join2_tree (op := 19) (n := 0) (nm := []) (by omega) ht one_tree (by omega) (by omega)).2.2
  have t3 := join1_tree (op := 21) (n := 0) (nm := []) (by omega) ht
  have m1 := join2_may (op := 19) (by omega) one_may hm
  have m2 := join2_may (op := 19) (by omega) hm one_may
  have m3 := join1_may (op := 21) (n := 0) (by omega) (by decide) hm
  have hone1 : dep oneT = 1 := rfl
  have hdp := dep_pos t
  have d1 := depth_emb t1
  have d2 := depth_emb t2
  have d3 := depth_emb t3
  rw [dep, deps, deps, deps, hone1, hdt] at d1
  rw [dep, deps, deps, deps, hone1, hdt] at d2
  rw [dep, deps, deps, hdt] at d3
  rw [dt (by omega), Bool.true_and, dt (by rw [d1]; repeat' split
                                           all_goals omega)] at m1
  rw [dt (by omega), Bool.true_and, dt (by rw [d2]; repeat' split
                                           all_goals omega)] at m2
  rw [dt (by omega), Bool.true_and, dt (by rw [d3]; repeat' split
                                           all_goals omega)] at m3
  have o1 := Of_eq (e := oneE ++ (e.map (mv oneE.length) ++ [((19 : Int), (oneE.length : Int) - 1, ((oneE.length + e.length : Nat) : Int) - 1, (-1 : Int), (0 : Int), ([] : List UInt8))])) (by simp [ol]; omega)
  have o2 := Of_eq (e := e ++ (oneE.map (mv e.length) ++ [((19 : Int), (e.length : Int) - 1, ((e.length + oneE.length : Nat) : Int) - 1, (-1 : Int), (0 : Int), ([] : List UInt8))])) (by simp [ol]; omega)
  have o3 := Of_eq (e := e ++ [((21 : Int), (e.length : Int) - 1, (-1 : Int), (-1 : Int), (0 : Int), ([] : List UInt8))]) (by simp; omega)
  rw [ofE_tree m1 t1] at o1
  rw [ofE_tree m2 t2] at o2
  rw [ofE_tree m3 t3] at o3
  rw [df (by omega), cond_false, Of_eq (by omega), ofE_tree hm ht, Option.bind_some, hone, Option.bind_some, j1, Option.bind_some, o1, Option.bind_some, j2, Option.bind_some, o2, Option.bind_some, j3, Option.bind_some, o3, Option.bind_some]
  have b1 : bad oneT = false := rfl
  have l1 : late oneT = false := rfl
  simp only [ofT, bad_eq, late_eq, lates, bads, lateOf, show trs 19 [oneT, t] = [oneT] from rfl, show trs 19 [t, oneT] = [t] from rfl, show trs 21 [t] = [t] from rfl, b1, l1, show strict 19 = true from rfl, show strict 21 = true from rfl]
  cases bad t <;> cases late t <;> rfl)

theorem lawInitsArrow : LawOk T 88 := fun d _ => ⟨true, InitsArrow_eq d, rfl, rfl, rfl⟩

end Go.Proofs.Ytcgipnodielieaa.R
