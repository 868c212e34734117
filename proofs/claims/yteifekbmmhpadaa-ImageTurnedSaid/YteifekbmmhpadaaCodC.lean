/-
  OUR OWN: whether code may be: the document's loops; the laws CodeChecks, CodeFewer.
-/
import Derived.Test.YteifekbmmhpadaaCodB
namespace Go.Proofs.Yteifekbmmhpadaa.R
open Go Go.Bm Go.Proofs
set_option linter.unusedVariables false
set_option linter.unusedSimpArgs false
set_option maxRecDepth 4000

def rowB (R : Nat) (s : List Int) : List Bool := rowF R fun j => decide (((j : Nat) : Int) ∈ s)
theorem rowB_len (R : Nat) (s : List Int) : (rowB R s).length = R := rowF_len _ _
theorem rowB_get {R : Nat} (s : List Int) {k : Int} (h : 0 ≤ k ∧ k < R) : nth (rowB R s) k.toNat = some (decide (k ∈ s)) := by
  rw [rowB, rowF_get _ (by omega), show ((k.toNat : Nat) : Int) = k by omega]
theorem rowB_set {R : Nat} (s : List Int) {k : Int} (h : 0 ≤ k ∧ k < R) : setNth (rowB R s) k.toNat true = rowB R (k :: s) := by
  rw [rowB, rowF_set]
  refine rowF_congr fun j _ => ?_
  by_cases e : j = k.toNat
  · rw [if_pos e, dt (by rw [List.mem_cons]; left; omega)]
  · rw [if_neg e]
    have hne : ((j : Nat) : Int) ≠ k := by omega
    simp [hne]
theorem rowB_nil (R : Nat) : rowB R [] = List.replicate R false := by
  rw [rowF_rep]; exact rowF_congr fun j _ => by simp
theorem written_eq {R : Nat} {s : List Int} (hs : ∀ k ∈ s, 0 ≤ k ∧ k < R) (k : Int) : c33 T.rf (rowB R s) k = some (rowB R s, decide (k ∈ s)) := or33 (by
  simp only [r33, rowB_len]
  by_cases h0 : 0 ≤ k
  · rw [dt (show k ≥ 0 from h0), cond_true]
    by_cases h1 : k < R
    · rw [dt h1, cond_true, inb_t h0 h1, cond_true, rowB_get s ⟨h0, h1⟩, Option.bind_some]
    · rw [df h1, cond_false, df (fun hm => h1 (hs k hm).2)]
  · rw [df (show ¬ k ≥ 0 from h0), cond_false, df (fun hm => h0 (hs k hm).1)])
theorem rrd_loop {R : Nat} {s : List Int} (hs : ∀ k ∈ s, 0 ≤ k ∧ k < R) : ∀ (suf pre : List Int), pre.length + suf.length ≤ 1000 →
    k29 T.rb (rowB R s) (pre ++ suf) (pre.length : Nat) = some (if suf.all (fun k => decide (k ∈ s)) = true then .inr (rowB R s, pre ++ suf) else .inl (rowB R s, pre ++ suf, 1))
  | [], pre, h => ob29 (by simp only [b29, lt_end, lt_self, List.append_nil, cond_false]; rfl)
  | k :: suf, pre, h => ob29 (by
    simp only [List.length_cons] at h
    have ih := rrd_loop hs suf (pre ++ [k]) (by simp; omega)
    simp only [List.append_assoc, List.singleton_append] at ih
    simp only [b29, lt_mid, inb_mid, nth_mid, cond_true, Option.bind_some, written_eq hs k, next_mid pre k (by omega), ih]
    rw [List.all_cons]
    cases decide (k ∈ s) <;> rfl)
def InR (c : Cd) (s : List Int × List Int) : Prop := (∀ k ∈ s.1, 0 ≤ k ∧ k < (c.2.1.toNat : Int)) ∧ ∀ k ∈ s.2, 0 ≤ k ∧ k < (c.2.2.1.toNat : Int)
def outD (c : Cd) (z : (Cd × List Bool × List Bool × Int) ⊕ (Cd × List Bool × List Bool)) : Option (List Int × List Int) → Prop
  | none => ∃ u, z = .inl u ∧ u.2.2.2 = 1
  | some s => ∃ st, z = .inr (c, rowB c.2.1.toNat s.1, st) ∧ InR c s
theorem refChk_loop {c : Cd} (h0 : 0 ≤ c.2.1) (hs : 0 ≤ c.2.2.1) (hl : c.1.length ≤ 1000000) : ∀ (suf pre : List Ic) (s : List Int × List Int), c.1 = pre ++ suf → InR c s →
    ∃ z, k28 T.rb c (rowB c.2.1.toNat s.1) (rowB c.2.2.1.toNat s.2) (decide (s.2 ≠ [])) (pre.length : Nat) = some z ∧ outD c z (runC c suf s)
  | [], pre, s, he, hR => by
    rw [List.append_nil] at he
    exact ⟨.inr (c, rowB c.2.1.toNat s.1, rowB c.2.2.1.toNat s.2), ob28 (by simp only [b28, he, lt_self, cond_false]), _, rfl, hR⟩
  | x :: suf, pre, s, he, hR => by
    have hll : c.1.length = pre.length + (suf.length + 1) := by rw [he]; simp
    have hlt : decide (((pre.length : Nat) : Int) < ((c.1.length : Nat) : Int)) = true := dt (by omega)
    have hin : inb ((pre.length : Nat) : Int) c.1.length = true := inb_t (by omega) (by omega)
    have hnt : nth c.1 ((pre.length : Nat) : Int).toNat = some x := by rw [he]; exact nth_mid pre x suf
    rw [runC]
    have bad : ∀ {u}, u.2.2.2 = 1 → okI c x = false → b28 T.rf T.rb c (rowB c.2.1.toNat s.1) (rowB c.2.2.1.toNat s.2) (decide (s.2 ≠ [])) (pre.length : Nat) = some (.inl u) → ∃ z, k28 T.rb c (rowB c.2.1.toNat s.1) (rowB c.2.2.1.toNat s.2) (decide (s.2 ≠ [])) (pre.length : Nat) = some z ∧ outD c z (match stepC c x s with
        | none => none
        | some s' => runC c suf s') := fun {u} hu hok hb => ⟨.inl u, ob28 hb, by rw [stepC_none (fun h => by rw [hok] at h; exact absurd h.1 (by decide))]; exact ⟨_, rfl, hu⟩⟩
    by_cases hrd : 0 ≤ rdN x.1
    case neg =>
      refine bad (u := (c, rowB c.2.1.toNat s.1, rowB c.2.2.1.toNat s.2, 1)) rfl (by rw [okI, df hrd]; rfl) ?_
      simp only [b28, hlt, hin, hnt, cond_true, Option.bind_some, refReads_eq, if_neg hrd, Bool.not_false]
    have hrle := rdN_le x.1
    have hrL := rdL_len hrd
    cases hre : restI x
    · refine bad (u := (c, rowB c.2.1.toNat s.1, rowB c.2.2.1.toNat s.2, 1)) rfl (by rw [okI, hre, Bool.false_and, Bool.and_false]) ?_
      simp only [b28, hlt, hin, hnt, cond_true, Option.bind_some, refReads_eq, if_pos hrd, Bool.not_true, cond_false, hrL, restC_eq hrd, hre, Bool.not_false]
    cases hnu : numI c x
    · refine bad (u := (c, rowB c.2.1.toNat s.1, rowB c.2.2.1.toNat s.2, 1)) rfl (by rw [okI, hnu, Bool.and_false, Bool.and_false]) ?_
      simp only [b28, hlt, hin, hnt, cond_true, Option.bind_some, refReads_eq, if_pos hrd, Bool.not_true, cond_false, hrL, restC_eq hrd, hre, numberC_eq, hnu, Bool.not_false]
    have hok : okI c x = true := by rw [okI, hre, hnu, dt hrd]; rfl
    have hti := rrd_loop hR.1 (rdL x) [] (by simp; omega)
    rw [List.nil_append, List.length_nil, show ((0 : Nat) : Int) = (0 : Int) from rfl] at hti
    have hnuP := hnu
    rw [numI] at hnuP
    have hnum := of_decide_eq_true hnuP
    have head : ∀ {y}, (match (if (rdL x).all (fun k => decide (k ∈ s.1)) = true then (.inr (rowB c.2.1.toNat s.1, rdL x) : (List Bool × List Int × Int) ⊕ (List Bool × List Int)) else .inl (rowB c.2.1.toNat s.1, rdL x, 1)) with
        | .inl u6 => some (.inl (c, u6.1, rowB c.2.2.1.toNat s.2, u6.2.2))
        | .inr w7 =>
          bif x.1 == 30 then
            bif inb x.2.2.2.2.2 (rowB c.2.2.1.toNat s.2).length then
              (nth (rowB c.2.2.1.toNat s.2) x.2.2.2.2.2.toNat).bind fun (x8 : Bool) =>
              bif x8 then some (.inl (c, w7.1, rowB c.2.2.1.toNat s.2, 1))
              else bif inb x.2.2.2.2.2 (rowB c.2.2.1.toNat s.2).length then
                bif Nat.blt x.2.2.2.2.2.toNat (rowB c.2.2.1.toNat s.2).length then k28 T.rb c w7.1 (setNth (rowB c.2.2.1.toNat s.2) x.2.2.2.2.2.toNat true) true (((pre ++ [x]).length : Nat) : Int) else none
              else none
            else none
          else bif x.1 == 21 then
            bif decide (s.2 ≠ []) then some (.inl (c, w7.1, rowB c.2.2.1.toNat s.2, 1))
            else bif decide (x.2.1 < 0) then some (.inl (c, w7.1, rowB c.2.2.1.toNat s.2, 1))
            else bif decide (x.2.1 ≥ c.2.1) then some (.inl (c, w7.1, rowB c.2.2.1.toNat s.2, 1))
            else bif inb x.2.1 w7.1.length then
              bif Nat.blt x.2.1.toNat w7.1.length then k28 T.rb c (setNth w7.1 x.2.1.toNat true) (rowB c.2.2.1.toNat s.2) (decide (s.2 ≠ [])) (((pre ++ [x]).length : Nat) : Int) else none
            else none
          else bif decide (x.2.1 < 0) then some (.inl (c, w7.1, rowB c.2.2.1.toNat s.2, 1))
          else bif decide (x.2.1 ≥ c.2.1) then some (.inl (c, w7.1, rowB c.2.2.1.toNat s.2, 1))
          else bif inb x.2.1 w7.1.length then
            bif Nat.blt x.2.1.toNat w7.1.length then k28 T.rb c (setNth w7.1 x.2.1.toNat true) (rowB c.2.2.1.toNat s.2) (decide (s.2 ≠ [])) (((pre ++ [x]).length : Nat) : Int) else none
          else none) = some y →
        k28 T.rb c (rowB c.2.1.toNat s.1) (rowB c.2.2.1.toNat s.2) (decide (s.2 ≠ [])) (pre.length : Nat) = some y := fun {y} hy => ob28 (by
      simp only [b28, hlt, hin, hnt, cond_true, Option.bind_some, refReads_eq, if_pos hrd, Bool.not_true, cond_false, hrL, restC_eq hrd, hre, numberC_eq, hnu, hti, next_mid pre x (by omega)]
      exact hy)
    cases hall : (rdL x).all fun k => decide (k ∈ s.1)
    · rw [hall] at head
      exact ⟨_, head rfl, by rw [stepC_none (fun h => by rw [hall] at h; exact absurd h.2 (by decide))]; exact ⟨_, rfl, rfl⟩⟩
    rw [hall, if_pos rfl] at head
    dsimp only at head
    have hst : stepC c x s = (if x.1 = 30 then (if x.2.2.2.2.2 ∈ s.2 then none else some (s.1, x.2.2.2.2.2 :: s.2))
     else if x.2.1 < 0 ∨ c.2.1 ≤ x.2.1 ∨ (x.1 = 21 ∧ s.2 ≠ []) then none else some (x.2.1 :: s.1, s.2)) := by rw [stepC, if_pos ⟨hok, hall⟩]
    rw [hst]
    by_cases h30 : x.1 = 30
    · have hN := hnum.2.2.2 (Or.inr h30)
      have hNr : 0 ≤ x.2.2.2.2.2 ∧ x.2.2.2.2.2 < (c.2.2.1.toNat : Int) := by omega
      have hi2 : inb x.2.2.2.2.2 (rowB c.2.2.1.toNat s.2).length = true := inb_t hNr.1 (by rw [rowB_len]; exact hNr.2)
      rw [if_pos h30]
      by_cases hmem : x.2.2.2.2.2 ∈ s.2
      · rw [if_pos hmem]
        exact ⟨_, head (by rw [bt h30, cond_true, hi2, cond_true, rowB_get s.2 hNr, Option.bind_some, dt hmem, cond_true]), _, rfl, rfl⟩
      · rw [if_neg hmem]
        obtain ⟨z, hz, ho⟩ := refChk_loop h0 hs hl suf (pre ++ [x]) (s.1, x.2.2.2.2.2 :: s.2) (by simp [he]) ⟨hR.1, fun k hk => by
          rcases List.mem_cons.1 hk with e | e
          · rw [e]; exact hNr
          · exact hR.2 k e⟩
        rw [dt (show (s.1, x.2.2.2.2.2 :: s.2).2 ≠ [] by simp)] at hz
        exact ⟨z, head (by rw [bt h30, cond_true, hi2, cond_true, rowB_get s.2 hNr, Option.bind_some, df hmem, cond_false, cond_true, blt_t (by rw [rowB_len]; omega), cond_true, rowB_set s.2 hNr]; exact hz), ho⟩
    · rw [if_neg h30]
      have go : ¬ (x.2.1 < 0 ∨ c.2.1 ≤ x.2.1 ∨ (x.1 = 21 ∧ s.2 ≠ [])) → ∃ z, (bif inb x.2.1 (rowB c.2.1.toNat s.1).length then
            bif Nat.blt x.2.1.toNat (rowB c.2.1.toNat s.1).length then k28 T.rb c (setNth (rowB c.2.1.toNat s.1) x.2.1.toNat true) (rowB c.2.2.1.toNat s.2) (decide (s.2 ≠ [])) (((pre ++ [x]).length : Nat) : Int) else none
          else none) = some z ∧ outD c z (runC c suf (x.2.1 :: s.1, s.2)) := fun hn => by
        have hD : 0 ≤ x.2.1 ∧ x.2.1 < (c.2.1.toNat : Int) := ⟨by
          rcases Int.lt_or_le x.2.1 0 with g | g
          · exact absurd (Or.inl g) hn
          · exact g, by
          rcases Int.lt_or_le x.2.1 c.2.1 with g | g
          · omega
          · exact absurd (Or.inr (Or.inl g)) hn⟩
        obtain ⟨z, hz, ho⟩ := refChk_loop h0 hs hl suf (pre ++ [x]) (x.2.1 :: s.1, s.2) (by simp [he]) ⟨fun k hk => by
          rcases List.mem_cons.1 hk with e | e
          · rw [e]; exact hD
          · exact hR.1 k e, hR.2⟩
        refine ⟨z, ?_, ho⟩
        rw [inb_t hD.1 (by rw [rowB_len]; exact hD.2), cond_true, blt_t (by rw [rowB_len]; omega), cond_true, rowB_set s.1 hD]
        exact hz
      by_cases hd : x.2.1 < 0
      · rw [if_pos (Or.inl hd)]
        by_cases h21 : x.1 = 21
        · refine ⟨_, head (by rw [bf h30, bt h21, dt hd]; cases decide (s.2 ≠ []) <;> rfl), _, rfl, rfl⟩
        · exact ⟨_, head (by rw [bf h30, bf h21, dt hd]; rfl), _, rfl, rfl⟩
      by_cases hr : c.2.1 ≤ x.2.1
      · rw [if_pos (Or.inr (Or.inl hr))]
        by_cases h21 : x.1 = 21
        · refine ⟨_, head (by rw [bf h30, bt h21, df hd, dt (show x.2.1 ≥ c.2.1 from hr)]; cases decide (s.2 ≠ []) <;> rfl), _, rfl, rfl⟩
        · exact ⟨_, head (by rw [bf h30, bf h21, df hd, dt (show x.2.1 ≥ c.2.1 from hr)]; rfl), _, rfl, rfl⟩
      have hr' : ¬ x.2.1 ≥ c.2.1 := hr
      by_cases h21 : x.1 = 21
      · by_cases hse : s.2 = []
        · have hn : ¬ (x.2.1 < 0 ∨ c.2.1 ≤ x.2.1 ∨ (x.1 = 21 ∧ s.2 ≠ [])) := by
            intro h; rcases h with h | h | h
            · exact hd h
            · exact hr h
            · exact h.2 hse
          obtain ⟨z, hz, ho⟩ := go hn
          rw [if_neg hn]
          exact ⟨z, head (by rw [bf h30, bt h21, df hd, df hr', cond_false, cond_true, df (show ¬ s.2 ≠ [] from fun h => h hse), cond_false, cond_false, cond_false]; rw [df (show ¬ s.2 ≠ [] from fun h => h hse)] at hz; exact hz), ho⟩
        · rw [if_pos (Or.inr (Or.inr ⟨h21, hse⟩))]
          exact ⟨_, head (by rw [bf h30, bt h21, dt (show s.2 ≠ [] from hse)]; rfl), _, rfl, rfl⟩
      · have hn : ¬ (x.2.1 < 0 ∨ c.2.1 ≤ x.2.1 ∨ (x.1 = 21 ∧ s.2 ≠ [])) := by
          intro h; rcases h with h | h | h
          · exact hd h
          · exact hr h
          · exact h21 h.1
        obtain ⟨z, hz, ho⟩ := go hn
        rw [if_neg hn]
        exact ⟨z, head (by rw [bf h30, bf h21, df hd, df hr', cond_false, cond_false, cond_false, cond_false]; exact hz), ho⟩
theorem routs_loop {c : Cd} {R : Nat} {s : List Int} (hs : ∀ k ∈ s, 0 ≤ k ∧ k < R) (hl : c.2.2.2.1.length ≤ 1000000) : ∀ (suf pre : List Int), c.2.2.2.1 = pre ++ suf →
    k30 T.rb c (rowB R s) (pre.length : Nat) = some (if suf.all (fun k => decide (k ∈ s)) = true then .inr (c, rowB R s) else .inl (c, rowB R s, 1))
  | [], pre, he => ob30 (by
    rw [List.append_nil] at he
    simp only [b30, he, lt_self, cond_false]; rfl)
  | k :: suf, pre, he => ob30 (by
    have hll : c.2.2.2.1.length = pre.length + (suf.length + 1) := by rw [he]; simp
    have ih := routs_loop hs hl suf (pre ++ [k]) (by simp [he])
    have hlt : decide (((pre.length : Nat) : Int) < ((c.2.2.2.1.length : Nat) : Int)) = true := dt (by omega)
    have hin : inb ((pre.length : Nat) : Int) c.2.2.2.1.length = true := inb_t (by omega) (by omega)
    have hnt : nth c.2.2.2.1 ((pre.length : Nat) : Int).toNat = some k := by rw [he]; exact nth_mid pre k suf
    simp only [b30, hlt, hin, hnt, cond_true, Option.bind_some, written_eq hs k, next_mid pre k (by omega), ih]
    rw [List.all_cons]
    cases decide (k ∈ s) <;> rfl)
theorem refCheckC_eq {c : Cd} (hl : c.1.length ≤ 1000000) (ho : c.2.2.2.1.length ≤ 1000000) : c27 T.rf c = some (chkC c) := or27 (by
  simp only [r27]
  unfold chkC bigC
  by_cases a1 : c.2.1 < 0
  · rw [dt a1, cond_true, if_pos (dt (Or.inl a1))]
  rw [df a1, cond_false]
  by_cases a2 : 100000 < c.2.1
  · rw [dt (show c.2.1 > 100000 from a2), cond_true, if_pos (dt (Or.inr (Or.inl a2)))]
  rw [df (show ¬ c.2.1 > 100000 from a2), cond_false]
  by_cases a3 : c.2.2.1 < 0
  · rw [dt a3, cond_true, if_pos (dt (Or.inr (Or.inr (Or.inl a3))))]
  rw [df a3, cond_false]
  by_cases a4 : 100000 < c.2.2.1
  · rw [dt (show c.2.2.1 > 100000 from a4), cond_true, if_pos (dt (Or.inr (Or.inr (Or.inr (Or.inl a4)))))]
  rw [df (show ¬ c.2.2.1 > 100000 from a4), cond_false]
  by_cases a5 : 200000 < c.1.length
  · rw [dt (show ((c.1.length : Nat) : Int) > 200000 by omega), cond_true, if_pos (dt (Or.inr (Or.inr (Or.inr (Or.inr a5)))))]
  rw [df (show ¬ ((c.1.length : Nat) : Int) > 200000 by omega), cond_false, if_neg (by intro h; have := of_decide_eq_true h; omega)]
  have m1 : inb' c.2.1 most = true := inb'_t (by omega) (by rw [show most = 274877906944 from rfl]; omega)
  have m2 : inb' c.2.1 c.2.1.toNat = true := inb'_t (by omega) (by omega)
  have m3 : inb' c.2.2.1 most = true := inb'_t (by omega) (by rw [show most = 274877906944 from rfl]; omega)
  have m4 : inb' c.2.2.1 c.2.2.1.toNat = true := inb'_t (by omega) (by omega)
  obtain ⟨z, h0, hz⟩ := refChk_loop (c := c) (by omega) (by omega) hl c.1 [] ([], []) rfl ⟨fun k hk => by simp at hk, fun k hk => by simp at hk⟩
  rw [List.length_nil, show ((0 : Nat) : Int) = (0 : Int) from rfl, rowB_nil, rowB_nil, df (show ¬ (([], []) : List Int × List Int).2 ≠ [] from fun h => h rfl)] at h0
  rw [m1, m2, m3, m4, cond_true, cond_true, cond_true, cond_true, h0, Option.bind_some]
  cases hrun : runC c c.1 ([], []) with
  | none =>
    rw [hrun] at hz
    obtain ⟨u, rfl, hu⟩ := hz
    exact congrArg some hu
  | some s =>
    rw [hrun] at hz
    obtain ⟨st, rfl, hR⟩ := hz
    have hou := routs_loop hR.1 ho c.2.2.2.1 [] rfl
    rw [List.length_nil, show ((0 : Nat) : Int) = (0 : Int) from rfl] at hou
    simp only [hou, Option.bind_some]
    cases c.2.2.2.1.all fun k => decide (k ∈ s.1) <;> rfl)

/-! The laws. -/
theorem ownC_loop {c : Cd} (hl : c.1.length ≤ 100000) (a b : Int) (o i_ : List Int) : ∀ (suf pre : List Ic), c.1 = pre ++ suf → k27 T.rb c a b o i_ pre (pre.length : Nat) = some (c, a, b, o, i_, c.1)
  | [], pre, he => ob27 (by
    rw [List.append_nil] at he
    simp only [b27, he, lt_self, cond_false])
  | k :: suf, pre, he => ob27 (by
    have hll : c.1.length = pre.length + (suf.length + 1) := by rw [he]; simp
    have ih := ownC_loop hl a b o i_ suf (pre ++ [k]) (by simp [he])
    have hlt : decide (((pre.length : Nat) : Int) < ((c.1.length : Nat) : Int)) = true := dt (by omega)
    have hin : inb ((pre.length : Nat) : Int) c.1.length = true := inb_t (by omega) (by omega)
    have hnt : nth c.1 ((pre.length : Nat) : Int).toNat = some k := by rw [he]; exact nth_mid pre k suf
    simp only [b27, hlt, hin, hnt, cond_true, Option.bind_some, ble_most (a := pre.length + 1) (by omega), Bool.and_true, next_mid pre k (by omega), ih])
theorem ownC_eq {c : Cd} (hl : c.1.length ≤ 100000) : c25 T.rf c = some c := or25 (by
  have h := ownC_loop hl c.2.1 c.2.2.1 c.2.2.2.1 c.2.2.2.2 c.1 [] rfl
  rw [List.length_nil, show ((0 : Nat) : Int) = (0 : Int) from rfl] at h
  simp only [r25, h, Option.bind_some])
def smallC (c : Cd) : Prop := c.1.length ≤ 600 ∧ c.2.1 ≤ 300 ∧ c.2.2.1 ≤ 300 ∧ c.2.2.2.1.length ≤ 60 ∧ c.2.2.2.2.length ≤ 60
instance (c : Cd) : Decidable (smallC c) := by unfold smallC; infer_instance
theorem smallC_eq (c : Cd) : c1 T.rf c = some (decide (smallC c)) := or1 (by
  simp only [r1, smallC]
  repeat' refine opt_bif (fun h => ?_) (fun h => ?_)
  all_goals
    refine congrArg some ?_
    simp only [decide_eq_true_eq, decide_eq_false_iff_not] at *
    first
      | (refine (decide_eq_false ?_).symm; omega)
      | (refine decide_eq_decide.2 ?_; omega))
theorem okI_mono {c c' : Cd} {x : Ic} (h2 : c.2.2.1 ≤ c'.2.2.1) (h3 : c.2.2.2.2 = c'.2.2.2.2) (h : okI c x = true) : okI c' x = true := by
  rw [okI, Bool.and_eq_true, Bool.and_eq_true] at h ⊢
  refine ⟨h.1, h.2.1, ?_⟩
  have hn := h.2.2
  rw [numI] at hn ⊢
  have := of_decide_eq_true hn
  rw [← h3]
  exact decide_eq_true ⟨this.1, this.2.1, this.2.2.1, fun e => by have := this.2.2.2 e; omega⟩
theorem stepC_mono {c c' : Cd} {x : Ic} (h1 : c.2.1 ≤ c'.2.1) (h2 : c.2.2.1 ≤ c'.2.2.1) (h3 : c.2.2.2.2 = c'.2.2.2.2) {s s' : List Int × List Int} (h : stepC c x s = some s') : stepC c' x s = some s' := by
  rw [stepC] at h ⊢
  by_cases hk : okI c x = true ∧ (rdL x).all (fun k => decide (k ∈ s.1)) = true
  · rw [if_pos hk] at h
    rw [if_pos ⟨okI_mono h2 h3 hk.1, hk.2⟩]
    by_cases h30 : x.1 = 30
    · rw [if_pos h30] at h ⊢; exact h
    · rw [if_neg h30] at h ⊢
      by_cases hb : x.2.1 < 0 ∨ c.2.1 ≤ x.2.1 ∨ (x.1 = 21 ∧ s.2 ≠ [])
      · rw [if_pos hb] at h; exact absurd h (by simp)
      · rw [if_neg hb] at h
        rw [if_neg (by
          intro hb'; apply hb
          rcases hb' with g | g | g
          · exact Or.inl g
          · exact Or.inr (Or.inl (by omega))
          · exact Or.inr (Or.inr g))]
        exact h
  · rw [if_neg hk] at h; exact absurd h (by simp)
theorem runC_mono {c c' : Cd} (h1 : c.2.1 ≤ c'.2.1) (h2 : c.2.2.1 ≤ c'.2.2.1) (h3 : c.2.2.2.2 = c'.2.2.2.2) : ∀ (l : List Ic) (n : Nat) {s s' : List Int × List Int}, runC c l s = some s' → (∃ s'', runC c' (l.take n) s = some s'') ∧ runC c' l s = some s'
  | [], n, s, s', h => ⟨⟨s, by rw [List.take_nil]; rfl⟩, h⟩
  | x :: r, n, s, s', h => by
    rw [runC] at h
    cases hst : stepC c x s with
    | none => rw [hst] at h; exact absurd h (by simp)
    | some s1 =>
      rw [hst] at h
      have hst' := stepC_mono h1 h2 h3 hst
      have ih := fun n => runC_mono h1 h2 h3 r n h
      refine ⟨?_, by rw [runC, hst']; exact (ih 0).2⟩
      cases n with
      | zero => exact ⟨s, by rw [List.take_zero]; rfl⟩
      | succ n =>
        obtain ⟨s2, h2'⟩ := (ih n).1
        exact ⟨s2, by rw [List.take_succ_cons, runC, hst']; exact h2'⟩
theorem chkC_zero {c : Cd} : chkC c = 0 ↔ bigC c = false ∧ ∃ s, runC c c.1 ([], []) = some s ∧ c.2.2.2.1.all (fun k => decide (k ∈ s.1)) = true := by
  unfold chkC
  cases bigC c
  · rw [if_neg (by decide)]
    cases runC c c.1 ([], []) with
    | none => constructor
              · intro h; exact absurd h (show ¬ (1 : Int) = 0 by decide)
              · rintro ⟨_, s, h, _⟩; exact absurd h (by simp)
    | some s =>
      show (if _ then _ else _) = (0 : Int) ↔ _
      constructor
      · intro h
        refine ⟨rfl, s, rfl, ?_⟩
        by_cases ha : c.2.2.2.1.all (fun k => decide (k ∈ s.1)) = true
        · exact ha
        · rw [if_neg ha] at h; exact absurd h (by decide)
      · rintro ⟨_, s1, h, ha⟩
        cases h
        rw [if_pos ha]
  · rw [if_pos rfl]
    constructor
    · intro h; exact absurd h (by decide)
    · rintro ⟨h, _⟩; exact absurd h (by decide)
end Go.Proofs.Yteifekbmmhpadaa.R
