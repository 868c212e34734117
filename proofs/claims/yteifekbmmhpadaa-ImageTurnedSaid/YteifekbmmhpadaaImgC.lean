/-
  OUR OWN: codes that are not the same have unlike bytes; what is read is what was written: the laws ImageApart, ImageTurned.
-/
import Derived.Test.YteifekbmmhpadaaImgB
namespace Go.Proofs.Yteifekbmmhpadaa.R
open Go Go.Bm Go.Proofs
set_option linter.unusedVariables false
set_option linter.unusedSimpArgs false
set_option maxRecDepth 4000

/-! Are two codes the same? -/
noncomputable instance : DecidableEq Cd := fun _ _ => Classical.propDecidable _
theorem ints17_loop : ∀ (s t p : List Int), s.length = t.length → p.length + s.length < 4611686018427387904 →
    k24 T.rb (p ++ s) (p ++ t) (p.length : Nat) = some (if s = t then .inr () else .inl false)
  | [], [], p, hl, h => ob24 (by simp only [b24, lt_end, lt_self, List.append_nil, cond_false]; rfl)
  | [], _ :: _, _, hl, _ => by simp at hl
  | _ :: _, [], _, hl, _ => by simp at hl
  | x :: s, y :: t, p, hl, h => ob24 (by
    simp only [List.length_cons] at h hl
    have e : (p ++ [x]).length = (p ++ [y]).length := by simp
    have hy : nth (p ++ y :: t) (p.length : Int).toNat = some y := nth_mid p y t
    have hyi : inb (p.length : Int) (p ++ y :: t).length = true := inb_mid p y t
    simp only [b24, lt_mid, inb_mid, nth_mid, cond_true, Option.bind_some, hy, hyi]
    by_cases hxy : x = y
    · subst hxy
      have ih := ints17_loop s t (p ++ [x]) (by omega) (by simp; omega)
      simp only [List.append_assoc, List.singleton_append] at ih
      rw [nbt rfl, cond_false, next_mid p x (by omega), ih]
      by_cases hst : s = t
      · rw [if_pos hst, if_pos (by rw [hst])]
      · rw [if_neg hst, if_neg (fun e => hst (List.cons.inj e).2)]
    · rw [nbf hxy, cond_true, if_neg (fun e => hxy (List.cons.inj e).1)])
theorem ints17_eq {a b : List Int} (h : a.length < 4611686018427387904) : c24 T.rf a b = some (decide (a = b)) := or24 (by
  simp only [r24]
  by_cases hl : a.length = b.length
  · have := ints17_loop a b [] hl (by simpa using h)
    simp only [List.nil_append, List.length_nil] at this
    rw [show ((0 : Nat) : Int) = (0 : Int) from rfl] at this
    rw [nbt (by omega), cond_false, this, Option.bind_some]
    by_cases hab : a = b
    · rw [if_pos hab, dt hab]
    · rw [if_neg hab, df hab]
  · rw [nbf (by omega), cond_true, df (fun e => hl (by rw [e]))])
theorem ins_beq (x y : Ic) : ((x.1 == y.1) && ((x.2.1 == y.2.1) && ((x.2.2.1 == y.2.2.1) && ((x.2.2.2.1 == y.2.2.2.1) && ((x.2.2.2.2.1 == y.2.2.2.2.1) && (x.2.2.2.2.2 == y.2.2.2.2.2)))))) = decide (x = y) := by
  obtain ⟨a, b, c, d, e, f⟩ := x
  obtain ⟨a', b', c', d', e', f'⟩ := y
  refine some_dec ?_
  simp only [Bool.and_eq_true, beq_iff_eq, Prod.mk.injEq]
theorem same17_loop {a b : Cd} (hl : a.1.length = b.1.length) (hb : a.1.length ≤ 1000000) : ∀ (s t p q : List Ic), a.1 = p ++ s → b.1 = q ++ t → p.length = q.length → ∃ z, k25 T.rb a b (p.length : Nat) = some z ∧ (match z with
      | .inl u => u.2.2 = false ∧ s ≠ t
      | .inr _ => s = t)
  | [], [], p, q, h1, h2, h3 => ⟨.inr (a, b), ob25 (by
    rw [List.append_nil] at h1
    simp only [b25, h1, lt_self, cond_false]), rfl⟩
  | [], y :: t, p, q, h1, h2, h3 => by
    rw [h1, h2] at hl; simp at hl; omega
  | x :: s, [], p, q, h1, h2, h3 => by
    rw [h1, h2] at hl; simp at hl; omega
  | x :: s, y :: t, p, q, h1, h2, h3 => by
    have hll : a.1.length = p.length + (s.length + 1) := by rw [h1]; simp
    have hlt : decide (((p.length : Nat) : Int) < ((a.1.length : Nat) : Int)) = true := dt (by omega)
    have hin : inb ((p.length : Nat) : Int) a.1.length = true := inb_t (by omega) (by omega)
    have hin2 : inb ((p.length : Nat) : Int) b.1.length = true := inb_t (by omega) (by omega)
    have hnt : nth a.1 ((p.length : Nat) : Int).toNat = some x := by rw [h1]; exact nth_mid p x s
    have hnt2 : nth b.1 ((p.length : Nat) : Int).toNat = some y := by rw [h2, h3]; exact nth_mid q y t
    by_cases hxy : x = y
    · obtain ⟨z, ih, hz⟩ := same17_loop hl hb s t (p ++ [x]) (q ++ [y]) (by simp [h1]) (by simp [h2]) (by simp [h3])
      refine ⟨z, ob25 ?_, ?_⟩
      · simp only [b25, hlt, hin, hin2, hnt, hnt2, cond_true, Option.bind_some, ins_beq, dt hxy, Bool.not_true, cond_false, next_mid p x (by omega)]
        exact ih
      · cases z with
        | inl u => exact ⟨hz.1, fun e => hz.2 (List.cons.inj e).2⟩
        | inr u => show x :: s = y :: t; rw [hxy, show s = t from hz]
    · refine ⟨.inl (a, b, false), ob25 ?_, rfl, fun e => hxy (List.cons.inj e).1⟩
      simp only [b25, hlt, hin, hin2, hnt, hnt2, cond_true, Option.bind_some, ins_beq, df hxy, Bool.not_false]
theorem refSame_eq {a b : Cd} (h1 : a.1.length ≤ 1000000) (h2 : a.2.2.2.1.length ≤ 1000000) (h3 : a.2.2.2.2.length ≤ 1000000) : c23 T.rf a b = some (decide (a = b)) := or23 (by
  simp only [r23, ints17_eq (a := a.2.2.2.1) (by omega), ints17_eq (a := a.2.2.2.2) (by omega), Option.bind_some]
  by_cases e1 : a.2.1 = b.2.1
  case neg => rw [nbf e1, cond_true, df (fun e => e1 (by rw [e]))]
  rw [nbt e1, cond_false]
  by_cases e2 : a.2.2.1 = b.2.2.1
  case neg => rw [nbf e2, cond_true, df (fun e => e2 (by rw [e]))]
  rw [nbt e2, cond_false]
  by_cases e3 : a.1.length = b.1.length
  case neg => rw [nbf (by omega), cond_true, df (fun e => e3 (by rw [e]))]
  rw [nbt (by omega), cond_false]
  by_cases e4 : a.2.2.2.1 = b.2.2.2.1
  case neg => rw [df e4, Bool.not_false, cond_true, df (fun e => e4 (by rw [e]))]
  rw [dt e4, Bool.not_true, cond_false]
  by_cases e5 : a.2.2.2.2 = b.2.2.2.2
  case neg => rw [df e5, Bool.not_false, cond_true, df (fun e => e5 (by rw [e]))]
  rw [dt e5, Bool.not_true, cond_false]
  obtain ⟨z, h0, hz⟩ := same17_loop e3 h1 a.1 b.1 [] [] rfl rfl rfl
  rw [List.length_nil, show ((0 : Nat) : Int) = (0 : Int) from rfl] at h0
  rw [h0, Option.bind_some]
  cases z with
  | inl u =>
    rw [df (fun e => hz.2 (by rw [e]))]
    exact congrArg some hz.1
  | inr u =>
    have e6 : a.1 = b.1 := hz
    rw [dt (Prod.ext e6 (Prod.ext e1 (Prod.ext e2 (Prod.ext e4 e5))))])

/-! Codes out of bytes: one alone. -/
theorem sgn_inj {n m : Int} (h : sgnI n = sgnI m) : n = m := by
  unfold sgnI at h
  split at h <;> split at h <;> omega
theorem rdL_lenI {x : Ic} (h : 0 ≤ rdN x.1) : (rdL x).length = (rdN x.1).toNat := by
  have := rdN_le x.1
  rw [rdL, List.length_take]; simp; omega
theorem words_same {x y : Ic} (h : x.1 = y.1) (hx : 0 ≤ rdN x.1) : (wordsI x).length = (wordsI y).length := by
  have h1 := rdL_lenI hx
  have h2 := rdL_lenI (x := y) (by rw [← h]; exact hx)
  unfold wordsI
  simp only [List.length_cons, List.length_append]
  rw [h1, h2, h]
  congr 1
  congr 1
  · split <;> rfl
  · congr 1; split <;> rfl
theorem words_inj {c c' : Cd} {x y : Ic} (hx : okI c x = true) (hy : okI c' y = true) (h : wordsI x = wordsI y) : x = y := by
  rw [okI_iff] at hx hy
  have kx := of_decide_eq_true hx
  have ky := of_decide_eq_true hy
  have hop : x.1 = y.1 := by
    unfold wordsI at h
    exact (List.cons.inj h).1
  obtain ⟨op, d, a, b, e, n⟩ := x
  obtain ⟨op', d', a', b', e', n'⟩ := y
  simp only at hop
  subst hop
  have x0 : 0 ≤ rdN op := kx.1
  have x1 : rdN op < 1 → a = 0 := kx.2.1.1
  have x2 : rdN op < 2 → b = 0 := kx.2.1.2.1
  have x3 : rdN op < 3 → e = 0 := kx.2.1.2.2.1
  have x4 : op = 30 → d = 0 := kx.2.1.2.2.2.1
  have x5 : (op = 3 ∨ op = 1 ∨ op = 2 ∨ op = 21 ∨ op = 30) ∨ n = 0 := kx.2.1.2.2.2.2
  have y1 : rdN op < 1 → a' = 0 := ky.2.1.1
  have y2 : rdN op < 2 → b' = 0 := ky.2.1.2.1
  have y3 : rdN op < 3 → e' = 0 := ky.2.1.2.2.1
  have y4 : op = 30 → d' = 0 := ky.2.1.2.2.2.1
  have y5 : (op = 3 ∨ op = 1 ∨ op = 2 ∨ op = 21 ∨ op = 30) ∨ n' = 0 := ky.2.1.2.2.2.2
  clear kx ky hx hy
  by_cases h30 : op = 30
  · rw [words_nil _ h30, words_nil _ h30] at h
    simp only [List.cons.injEq, and_true] at h
    have hn : n = n' := sgn_inj h.2.2
    have hr : rdN op = 1 := by rw [h30]; rfl
    have ha : a = a' := h.2.1
    simp only [Prod.mk.injEq, true_and]
    omega
  by_cases hnm : op = 3 ∨ op = 1 ∨ op = 2 ∨ op = 21
  · rw [words_named _ hnm, words_named _ hnm] at h
    simp only [List.cons.injEq, and_true] at h
    have hn : n = n' := sgn_inj h.2.2
    have hr : rdN op = 0 := by rw [rdN, if_pos hnm]
    have ha : d = d' := h.2.1
    simp only [Prod.mk.injEq, true_and]
    omega
  have hn : hasNI op = false := df (by omega)
  rw [words_plain _ hn, words_plain _ hn] at h
  simp only [List.cons.injEq, true_and] at h
  have hle := rdN_le op
  have hd : d = d' := h.1
  have hr := h.2
  unfold rdL at hr
  simp only at hr
  rcases (show rdN op = 0 ∨ rdN op = 1 ∨ rdN op = 2 ∨ rdN op = 3 by omega) with g | g | g | g
  · simp only [Prod.mk.injEq, true_and]; omega
  · rw [g] at hr
    simp at hr
    simp only [Prod.mk.injEq, true_and]; omega
  · rw [g] at hr
    simp at hr
    simp only [Prod.mk.injEq, true_and]; omega
  · rw [g] at hr
    simp at hr
    simp only [Prod.mk.injEq, true_and]; omega
theorem flat_inj {c c' : Cd} (hR : c.2.1 ≤ 100000) (hS : c.2.2.1 ≤ 100000) (hi : c.2.2.2.2.length ≤ 1000000) (hR' : c'.2.1 ≤ 100000) (hS' : c'.2.2.1 ≤ 100000) (hi' : c'.2.2.2.2.length ≤ 1000000) : ∀ (l m : List Ic) (r s : List Int), l.length = m.length → (∀ x ∈ l, InstP c x) → (∀ x ∈ m, InstP c' x) → (l.flatMap fun x => encL (wordsI x)) ++ r = (m.flatMap fun x => encL (wordsI x)) ++ s → l = m ∧ r = s
  | [], [], r, s, _, _, _, h => ⟨rfl, h⟩
  | [], _ :: _, _, _, hl, _, _, _ => by simp at hl
  | _ :: _, [], _, _, hl, _, _, _ => by simp at hl
  | x :: l, y :: m, r, s, hl, h1, h2, h => by
    rw [List.flatMap_cons, List.flatMap_cons, List.append_assoc, List.append_assoc] at h
    obtain ⟨wx, rx⟩ := words_ok hR hS hi (h1 x List.mem_cons_self)
    obtain ⟨wy, ry⟩ := words_ok hR' hS' hi' (h2 y List.mem_cons_self)
    have ox := wx x.1 (by unfold wordsI; exact List.mem_cons_self)
    have oy := wy y.1 (by unfold wordsI; exact List.mem_cons_self)
    have hop : x.1 = y.1 := by
      have h' := h
      unfold wordsI at h'
      rw [encL_cons, encL_cons, List.append_assoc, List.append_assoc] at h'
      have := (encZ_inj _ _ _ _ h').1
      omega
    obtain ⟨a, b⟩ := encL_inj _ _ _ _ (words_same hop rx) (fun z hz => (wx z hz).1) (fun z hz => (wy z hz).1) h
    obtain ⟨p, q⟩ := flat_inj hR hS hi hR' hS' hi' l m r s (by simpa using hl) (fun z hz => h1 z (List.mem_cons_of_mem _ hz)) (fun z hz => h2 z (List.mem_cons_of_mem _ hz)) b
    exact ⟨by rw [p, words_inj (h1 x List.mem_cons_self).1 (h2 y List.mem_cons_self).1 a], q⟩
theorem encF_inj {a b : Cd} (ha : CodeQ a) (hb : CodeQ b) (ia : inpB a = true) (ib : inpB b = true) (ha1 : a.2.2.2.2.length ≤ 1000000) (hb1 : b.2.2.2.2.length ≤ 1000000) (h : encF a = encF b) : a = b := by
  rw [encF, encF] at h
  have h := List.append_cancel_left h
  have pa := fun y hy => of_decide_eq_true (List.all_eq_true.1 ia y hy)
  have pb := fun y hy => of_decide_eq_true (List.all_eq_true.1 ib y hy)
  have ra := ha.regs
  have rb := hb.regs
  have sa := ha.slots
  have sb := hb.slots
  obtain ⟨e1, h⟩ := encL_inj _ _ _ _ (by simp) (fun y hy => by
    simp only [List.mem_cons, List.not_mem_nil, or_false] at hy
    rcases hy with e | e | e <;> subst e <;> omega) (fun y hy => by
    simp only [List.mem_cons, List.not_mem_nil, or_false] at hy
    rcases hy with e | e | e <;> subst e <;> omega) h
  simp only [List.cons.injEq, and_true] at e1
  obtain ⟨e2, h⟩ := encL_inj _ _ _ _ (by omega) (fun y hy => (pa y hy).1) (fun y hy => (pb y hy).1) h
  obtain ⟨e3, h⟩ := encL_inj _ _ _ _ (by simp) (fun y hy => by rw [List.mem_singleton.1 hy]; omega) (fun y hy => by rw [List.mem_singleton.1 hy]; omega) h
  simp only [List.cons.injEq, and_true] at e3
  obtain ⟨e4, h⟩ := flat_inj ra.2 sa.2 ha1 rb.2 sb.2 hb1 _ _ _ _ (by omega) ha.inst hb.inst h
  obtain ⟨e5, h⟩ := encL_inj _ _ _ _ (by simp) (fun y hy => by rw [List.mem_singleton.1 hy]; omega) (fun y hy => by rw [List.mem_singleton.1 hy]; omega) h
  simp only [List.cons.injEq, and_true] at e5
  rw [← List.append_nil (encL a.2.2.2.1), ← List.append_nil (encL b.2.2.2.1)] at h
  obtain ⟨e6, _⟩ := encL_inj _ _ _ _ (by omega) (fun y hy => (ha.outs y hy).1) (fun y hy => (hb.outs y hy).1) h
  exact Prod.ext e4 (Prod.ext e1.1 (Prod.ext e1.2.1 (Prod.ext e6 e2)))
theorem encF_byte (c : Cd) : ∀ x ∈ encF c, 0 ≤ x ∧ x < 256 := fun x hx => by
  unfold encF at hx
  simp only [List.mem_append] at hx
  rcases hx with h | h | h | h | h | h | h
  · simp only [List.mem_cons, List.not_mem_nil, or_false] at h
    rcases h with e | e | e | e <;> subst e <;> decide
  · exact encL_byte _ x h
  · exact encL_byte _ x h
  · exact encL_byte _ x h
  · obtain ⟨y, _, hy⟩ := List.mem_flatMap.1 h
    exact encL_byte _ x hy
  · exact encL_byte _ x h
  · exact encL_byte _ x h
theorem encS_zero {c : Cd} : (encS c).2 = 0 ↔ chkC c = 0 ∧ inpB c = true := by
  unfold encS
  by_cases h : chkC c = 0 ∧ inpB c = true
  · rw [if_pos h]; exact ⟨fun _ => h, fun _ => rfl⟩
  · rw [if_neg h]; exact ⟨fun e => absurd (show (1 : Int) = 0 from e) (by decide), fun e => absurd e h⟩
theorem encS_text {c : Cd} (h : (encS c).2 = 0) : (encS c).1 = strOf (encF c) := by
  unfold encS
  rw [if_pos (encS_zero.1 h)]
theorem encS_inj {a b : Cd} (ha : (encS a).2 = 0) (hb : (encS b).2 = 0) (ha1 : a.2.2.2.2.length ≤ 1000000) (hb1 : b.2.2.2.2.length ≤ 1000000) (h : (encS a).1 = (encS b).1) : a = b := by
  obtain ⟨ca, ia⟩ := encS_zero.1 ha
  obtain ⟨cb, ib⟩ := encS_zero.1 hb
  rw [encS_text ha, encS_text hb] at h
  exact encF_inj (code_Q ca) (code_Q cb) ia ib ha1 hb1 (strOf_inj _ _ (encF_byte a) (encF_byte b) h)
theorem ImageApart_eq (a b : Cd) : c38 T.rf a b = some true := or38 (by
  simp only [r38, smallC_eq, live17_eq, Option.bind_some]
  by_cases hs : smallC a
  case neg => rw [df hs]; rfl
  by_cases ht : smallC b
  case neg => rw [dt hs, df ht]; rfl
  have hs' := hs
  have ht' := ht
  unfold smallC at hs' ht'
  rw [dt hs, dt ht]
  simp only [Bool.not_true, cond_false, ownC_eq (c := a) (by omega), ownC_eq (c := b) (by omega), Encode_eq (c := a) (by omega) (by omega), Encode_eq (c := b) (by omega) (by omega), refSame_eq (a := a) (b := b) (by omega) (by omega) (by omega), Option.bind_some]
  by_cases ha : (encS a).2 = 0
  case neg => rw [nbf ha]; rfl
  by_cases hb : (encS b).2 = 0
  case neg => rw [nbt ha, nbf hb]; rfl
  rw [nbt ha, nbt hb, cond_false, cond_false]
  by_cases hab : a = b
  · subst hab
    rw [dt rfl, beq_self_eq_true]; rfl
  · rw [df hab, beq_eq_false_iff_ne.2 (fun e => hab (encS_inj ha hb (by omega) (by omega) e))]; rfl)
theorem lawImageApart : LawOk T 38 := fun d _ => ⟨true, ImageApart_eq d.1 d.2, rfl, rfl, rfl⟩

end Go.Proofs.Yteifekbmmhpadaa.R
