/-
  OUR OWN: round signs in what is written; law ShowSigns.
-/
import Derived.Test.YtoippcahbninnaaDoorShwC
namespace Go.Proofs.YtoippcahbninnaaDoor.R
open Go Go.Bm Go.Proofs
set_option linter.unusedVariables false
set_option linter.unusedSimpArgs false
set_option maxRecDepth 4000

/-! ### Counting round signs -/
def signD (c : UInt8) (d : Int) : Int := if c.toNat = 40 then d + 1 else if c.toNat = 41 then d - 1 else d
def parR : Str → Int → Option Int
  | [], d => some d
  | c :: r, d => if signD c d < 0 then none else parR r (signD c d)

theorem signs_loop : ∀ (suf pre : Str) (d : Int), pre.length + suf.length ≤ 100000000 → 0 ≤ d → d ≤ pre.length →
    k55 T.rb (pre ++ suf) d (pre.length : Nat) = some (match parR suf d with
      | some x => .inr x
      | none => .inl false)
  | [], pre, d, h, h0, h1 => ob55 (by simp only [b55, lt_end, lt_self, List.append_nil, cond_false, parR])
  | c :: suf, pre, d, h, h0, h1 => ob55 (by
    simp only [List.length_cons] at h
    have ih := fun (d' : Int) (g0 : (0 : Int) ≤ d') (g1 : d' ≤ (((pre ++ [c]).length : Nat) : Int)) => signs_loop suf (pre ++ [c]) d' (by simp; omega) g0 g1
    simp only [List.append_assoc, List.singleton_append] at ih
    have hl : (pre ++ [c]).length = pre.length + 1 := by simp
    have w1 : IntKind.i64.wrap (d + 1) = d + 1 := wr (by omega)
    have w2 : IntKind.i64.wrap (d - 1) = d - 1 := wr (by omega)
    simp only [b55, lt_mid, inb_mid, nth_mid, cond_true, Option.bind_some, next_mid pre c (by omega), w1, w2]
    by_cases h40 : c.toNat = 40
    · have hs : signD c d = d + 1 := by unfold signD; rw [if_pos h40]
      rw [bt (show ((c.toNat : Nat) : Int) = 40 by omega), bf (show ((c.toNat : Nat) : Int) ≠ 41 by omega), cond_true, cond_false, df (by omega), cond_false, ih (d + 1) (by omega) (by omega)]
      simp only [parR, hs, if_neg (show ¬ d + 1 < 0 by omega)]
    · rw [bf (show ((c.toNat : Nat) : Int) ≠ 40 by omega), cond_false]
      by_cases h41 : c.toNat = 41
      · have hs : signD c d = d - 1 := by unfold signD; rw [if_neg h40, if_pos h41]
        rw [bt (show ((c.toNat : Nat) : Int) = 41 by omega), cond_true]
        by_cases hn : d - 1 < 0
        · rw [dt hn, cond_true]
          simp only [parR, hs, if_pos hn]
        · rw [df hn, cond_false, ih (d - 1) (by omega) (by omega)]
          simp only [parR, hs, if_neg hn]
      · have hs : signD c d = d := by unfold signD; rw [if_neg h40, if_neg h41]
        rw [bf (show ((c.toNat : Nat) : Int) ≠ 41 by omega), cond_false, df (by omega), cond_false, ih d h0 (by omega)]
        simp only [parR, hs, if_neg (show ¬ d < 0 by omega)])

/-- As many open as close, and none closes too early. -/
def Bal (s : Str) : Prop := ∀ (r : Str) (d : Int), 0 ≤ d → parR (s ++ r) d = parR r d
theorem Bal.nil : Bal [] := fun r d _ => rfl
theorem Bal.app {a b : Str} (ha : Bal a) (hb : Bal b) : Bal (a ++ b) := fun r d h => by rw [List.append_assoc, ha _ _ h, hb _ _ h]
/-- No round sign. -/
def Pln (s : Str) : Prop := ∀ c ∈ s, (c : UInt8).toNat ≠ 40 ∧ c.toNat ≠ 41
theorem Pln.bal : ∀ {s : Str}, Pln s → Bal s
  | [], _ => Bal.nil
  | c :: s, h => fun r d hd => by
    have hc := h c (by simp)
    have hs : signD c d = d := by unfold signD; rw [if_neg hc.1, if_neg hc.2]
    rw [List.cons_append, parR, hs, if_neg (by omega)]
    exact Pln.bal (fun x hx => h x (List.mem_cons_of_mem _ hx)) r d hd
theorem Bal.par {s : Str} (h : Bal s) : Bal (32 :: 40 :: (s ++ [32, 41])) := fun r d hd => by
  have e1 : signD 32 d = d := rfl
  have e2 : signD 40 d = d + 1 := rfl
  have e3 : signD 32 (d + 1) = d + 1 := rfl
  have e4 : signD 41 (d + 1) = d := by show d + 1 - 1 = d; omega
  have a1 : ¬ d < 0 := by omega
  have a2 : ¬ d + 1 < 0 := by omega
  simp only [List.cons_append, List.append_assoc, List.nil_append]
  rw [parR, e1, if_neg a1, parR, e2, if_neg a2, h _ _ (by omega), parR, e3, if_neg a2, parR, e4, if_neg a1]

theorem J_app (l m : List Str) : J (l ++ m) = J l ++ J m := by simp [J]
theorem J_cons (x : Str) (l : List Str) : J (x :: l) = 32 :: (x ++ J l) := by simp [J]
theorem J_nil : J [] = [] := rfl
theorem txt_cons (x : Str) (l : List Str) : txt (x :: l) = x ++ J l := by simp [txt, J]
theorem J_txt {l : List Str} (h : 1 ≤ l.length) : J l = 32 :: txt l := by
  cases l with
  | nil => simp at h
  | cons x l => rw [J_cons, txt_cons]

def BalL (l : List Str) : Prop := Bal (J l)
theorem BalL.nil : BalL [] := Bal.nil
theorem BalL.app {l m : List Str} (h : BalL l) (k : BalL m) : BalL (l ++ m) := by unfold BalL; rw [J_app]; exact Bal.app h k
theorem BalL.cons {x : Str} {l : List Str} (h : Pln x) (k : BalL l) : BalL (x :: l) := by
  unfold BalL; rw [J_cons]
  have : Pln (32 :: x) := fun c hc => by
    rcases List.mem_cons.1 hc with rfl | hc
    · decide
    · exact h c hc
  have := Bal.app (Pln.bal this) k
  simpa using this
theorem BalL.par {l : List Str} (h : BalL l) : BalL ([40] :: (l ++ [[41]])) := by
  unfold BalL; rw [J_cons, J_app, J_cons, J_nil]
  have := Bal.par h
  simpa using this
theorem BalL.part {a : Int} {x : Int × List Str} (h : BalL x.2) : BalL (partX a x) := by
  unfold partX; split
  · exact h
  · exact BalL.par h

theorem digX_pln : ∀ (k n : Nat) (l : Str), Pln l → Pln (digX k n l)
  | 0, _, l, h => h
  | k + 1, n, l, h => by
    have one : ∀ m, m < 10 → Pln (UInt8.ofNat (48 + m) :: l) := fun m hm c hc => by
      rcases List.mem_cons.1 hc with rfl | hc
      · have : (UInt8.ofNat (48 + m)).toNat = 48 + m := by rw [UInt8.toNat_ofNat']; omega
        omega
      · exact h c hc
    unfold digX
    cases hb : Nat.blt n 10 with
    | true => rw [cond_true]; rw [Nat.blt_eq] at hb; exact one n hb
    | false => rw [cond_false]; exact digX_pln k _ _ (one _ (by omega))
theorem itoaX_pln (n : Int) : Pln (itoaX n) := by
  unfold itoaX
  split
  · exact digX_pln _ _ _ (fun c hc => by cases hc)
  · intro c hc
    rcases List.mem_cons.1 hc with rfl | hc
    · decide
    · exact digX_pln _ _ _ (fun c hc => by cases hc) c hc
theorem boolX_pln (n : Int) : Pln (boolX n) := by unfold boolX; split <;> (intro c hc; revert c; decide)
theorem opX_pln (op : Int) : Pln (opX op) := by
  unfold opX markX
  split
  · have : ∀ k, k < 28 → ∀ c ∈ (opsL.getD k ([], -1)).1, (c : UInt8).toNat ≠ 40 ∧ c.toNat ≠ 41 := by decide +kernel
    exact this _ (by omega)
  · intro c hc; cases hc
theorem name_pln {n : Nd} (h : nameN n = true) : Pln n.2.2.2.2.2 := by
  unfold nameN at h
  rw [Bool.or_eq_true] at h
  rcases h with h | h
  · rw [eq_of_beq h]; intro c hc; cases hc
  · simp only [nameB, Bool.and_eq_true, decide_eq_true_eq] at h
    intro c hc
    have := List.all_eq_true.1 h.2.2.1 c hc
    rw [partB_eq] at this
    unfold letB digB at this
    simp only [Bool.or_eq_true, decide_eq_true_eq] at this
    omega
theorem pln_lit {s : Str} (h : (s.all fun c => !(Nat.beq c.toNat 40) && !(Nat.beq c.toNat 41)) = true) : Pln s := fun c hc => by
  have := List.all_eq_true.1 h c hc
  simp only [Bool.and_eq_true, Bool.not_eq_true'] at this
  exact ⟨Nat.ne_of_beq_eq_false this.1, Nat.ne_of_beq_eq_false this.2⟩

theorem tokB_bal {b : Nd} (hb : nameN b = true) {l : List (Int × List Str)} (hl : ∀ x ∈ l, BalL x.2) : BalL (tokB b l) := by
  have hnm := name_pln hb
  unfold tokB
  split
  · exact BalL.cons (itoaX_pln _) BalL.nil
  split
  · exact BalL.cons (boolX_pln _) BalL.nil
  split
  · exact BalL.cons hnm BalL.nil
  split
  · split
    · rename_i x
      exact BalL.cons hnm (BalL.par (hl x (by simp)))
    · exact BalL.cons hnm (BalL.par (l := []) BalL.nil)
  split
  · rename_i x
    have hx := hl x (by simp)
    split
    · exact hx
    split
    · exact BalL.cons (opX_pln _) (BalL.cons (itoaX_pln _) (BalL.part hx))
    · exact BalL.cons (opX_pln _) (BalL.part hx)
  · rename_i x y
    have hx := hl x (by simp)
    have hy := hl y (by simp)
    split
    · exact BalL.app hx (BalL.cons (pln_lit (by decide)) hy)
    · exact BalL.app (BalL.part hx) (BalL.cons (opX_pln _) (BalL.part hy))
  · rename_i x y z
    have hx := hl x (by simp)
    have hy := hl y (by simp)
    have hz := hl z (by simp)
    exact BalL.cons (opX_pln _) (BalL.app hx (BalL.cons (pln_lit (by decide)) (BalL.app hy (BalL.cons (pln_lit (by decide)) hz))))
  · exact BalL.nil

mutual
theorem toks_bal : ∀ (t : Tr), namesT t = true → BalL (toks t)
  | .mk b ks, h => by
    rw [namesT, Bool.and_eq_true] at h
    rw [toks]
    exact tokB_bal h.1 (toksL_bal ks h.2)
theorem toksL_bal : ∀ (ts : List Tr), namesL ts = true → ∀ x ∈ toksL ts, BalL x.2
  | [], _, x, hx => by cases hx
  | t :: ts, h, x, hx => by
    rw [namesL, Bool.and_eq_true] at h
    rw [toksL, List.mem_cons] at hx
    rcases hx with rfl | hx
    · exact toks_bal t h.1
    · exact toksL_bal ts h.2 x hx
end

theorem txt_signs {t : Tr} (h : namesT t = true) (h1 : 1 ≤ (toks t).length) : parR (txt (toks t)) 0 = some 0 := by
  have hb := toks_bal t h [] 0 (by omega)
  rw [J_txt h1, List.append_nil] at hb
  rw [parR] at hb
  exact hb

/-! ### Not, twice -/
theorem notE_mv {e : List Nd} (h : mayB e = true) : (e ++ [((4 : Int), (e.length : Int) - 1, (-1 : Int), (-1 : Int), (0 : Int), ([] : Str))]).map (mv 0) = e ++ [((4 : Int), (e.length : Int) - 1, (-1 : Int), (-1 : Int), (0 : Int), ([] : Str))] := by
  have hM := may_P h
  have hl := hM.len
  have hpos := List.length_pos_iff.2 hM.ne
  rw [List.map_append, may_mv0 h]
  congr 1
  have : shift 0 ((e.length : Int) - 1) = (e.length : Int) - 1 := by unfold shift; rw [if_pos (by omega), wr (by omega)]; omega
  simp only [List.map_cons, List.map_nil, mv, this, shift_neg]

theorem join1' {a : List Nd} (ha : a ≠ []) (hmv : a.map (mv 0) = a) : join 4 0 [] [a] = a ++ [((4 : Int), (a.length : Int) - 1, (-1 : Int), (-1 : Int), (0 : Int), ([] : Str))] := by
  have hop : (4 : Int) = 4 ∨ (4 : Int) = 5 ∨ (21 ≤ (4 : Int) ∧ (4 : Int) ≤ 25) := .inl rfl
  have h27 : ¬ (4 : Int) = 27 := by decide
  unfold join
  rw [if_neg (by decide), kids1 hop, if_neg (by intro hh; exact hh.2 rfl)]
  have e1 : ([] : List Nd) ++ a.map (mv ((([] : List Nd).length : Nat) : Int)) = a := by simpa using hmv
  simp only [joinL, if_neg ha, if_neg h27, e1]
  simp only [keptK, if_neg h27, aim, List.nil_append, List.singleton_append, List.append_assoc]

theorem mayB_len {e : List Nd} (h : 5000 < e.length) : mayB e = false := by
  cases hm : mayB e with
  | false => rfl
  | true => have := (may_P hm).len; omega
theorem mayB_deep {e : List Nd} (h : 40 < depth e) : mayB e = false := by
  cases hm : mayB e with
  | false => rfl
  | true => have := (may_P hm).deep; omega

theorem ShowSigns_eq (e : List Nd) : c0 T.rf e = some true := or0 (by
  have live_eq : c1 T.rf = some true := live_run
  simp only [r0, live_eq, Option.bind_some]
  by_cases hl : e.length ≤ 200
  case neg => rw [dt (by omega)]; rfl
  have h1 : e.length ≤ 1000000 := by omega
  rw [df (by omega), cond_false, mayS_eq h1, Option.bind_some]
  cases hS : mayS e with
  | false => rfl
  | true =>
    simp only [mayS, Bool.and_eq_true] at hS
    obtain ⟨hm, hnm⟩ := hS
    obtain ⟨t, k1, k2, k4, k3, k5, k6⟩ : ∃ t, Emb e (e.length - 1) t ∧ Valid t ∧ t.op ≠ 28 ∧ t.size ≤ 5000 ∧ t.size = e.length ∧ dep t ≤ 40 := by
      obtain ⟨t, h1, h2, h3, h4, h5, h6, h7⟩ := may_tree hm
      exact ⟨t, h1, h2, h4, h7, h3, h6⟩
    have hnt : namesT t = true := by rw [← names_tree hm k1]; exact hnm
    have hT := toks_len _ _ _ (Nat.le_refl _) k1 k2
    have hb := txt_len (toks_small _ hnt)
    have hloop := signs_loop (txt (toks t)) [] 0 (by simp; omega) (by omega) (by simp)
    simp only [List.nil_append, List.length_nil, txt_signs hnt hT.1] at hloop
    rw [show ((0 : Nat) : Int) = (0 : Int) from rfl] at hloop
    rw [Bool.not_true, cond_false, Show_tree hm k1 k2 k3 k4 h1, hnt, if_pos rfl, Option.bind_some, hloop, Option.bind_some]
    simp only
    have hne := (may_P hm).ne
    have hpos := List.length_pos_iff.2 hne
    have hj1 : c27 T.rf 4 0 ([] : Str) [e] = some _ := refJoin_eq (by simp [total]; omega) (by simp)
    rw [join1' hne (may_mv0 hm)] at hj1
    have T1 := join1_tree (op := 4) (n := 0) (nm := []) (.inl rfl) k1
    have M1 := join1_may (op := 4) (n := 0) (.inl rfl) (by decide) hm
    have MV := notE_mv hm
    generalize hy : e ++ [((4 : Int), (e.length : Int) - 1, (-1 : Int), (-1 : Int), (0 : Int), ([] : Str))] = y at hj1 T1 M1 MV
    have hyl : y.length = e.length + 1 := by rw [← hy]; simp
    have hyne : y ≠ [] := fun h => by rw [h] at hyl; simp at hyl
    have hj2 : c27 T.rf 4 0 ([] : Str) [y] = some _ := refJoin_eq (by simp [total]; omega) (by simp)
    rw [join1' hyne MV] at hj2
    have T2 := join1_tree (op := 4) (n := 0) (nm := []) (.inl rfl) T1
    have d1 := depth_emb T1
    rw [dep, deps, deps] at d1
    have hdt := dep_pos t
    rw [if_pos (show dep t > 0 by omega)] at d1
    generalize hz : y ++ [((4 : Int), (y.length : Int) - 1, (-1 : Int), (-1 : Int), (0 : Int), ([] : Str))] = z at hj2 T2
    have hzl : z.length = e.length + 2 := by rw [← hz]; simp [hyl]
    have d2 := depth_emb T2
    rw [dep, deps, deps, dep, deps, deps, if_pos (show dep t > 0 by omega), if_pos (show dep t + 1 > 0 by omega)] at d2
    rw [hj1, Option.bind_some, hj2, Option.bind_some, mayS_eq (show z.length ≤ 1000000 by omega), Option.bind_some]
    cases hSz : mayS z with
    | false => rfl
    | true =>
      simp only [mayS, Bool.and_eq_true] at hSz
      obtain ⟨hmz, hnz⟩ := hSz
      have hdz := (may_P hmz).deep
      have hmy : mayB y = true := by rw [M1, dt (show e.length + 1 ≤ 5000 by omega), dt (show depth y ≤ 40 by omega)]; rfl
      have V1 := valid_emb (may_P hmy) _ _ T1
      have V2 := valid_emb (may_P hmz) _ _ T2
      have n1 : namesT (.mk (4, -1, -1, -1, 0, []) [t]) = true := by rw [namesT, namesL, hnt]; rfl
      have n2 : namesT (.mk (4, -1, -1, -1, 0, []) [.mk (4, -1, -1, -1, 0, []) [t]]) = true := by rw [namesT, namesL, n1]; rfl
      have s1 := Show_tree hmy T1 V1 (by rw [size1]; omega) (show (4 : Int) ≠ 28 by decide) (by omega)
      have s2 := Show_tree hmz T2 V2 (by rw [size1, size1]; omega) (show (4 : Int) ≠ 28 by decide) (by omega)
      rw [n1, if_pos rfl] at s1
      rw [n2, if_pos rfl] at s2
      have q1 := toks_len _ _ _ (Nat.le_refl _) T1 V1
      have q2 := txt_len (toks_small _ n1)
      rw [size1] at q1
      have he : txt (toks (.mk (4, -1, -1, -1, 0, []) [.mk (4, -1, -1, -1, 0, []) [t]])) = [110, 111, 116, 32] ++ txt (toks (.mk (4, -1, -1, -1, 0, []) [t])) := by
        have hp : partX 9 ((Tr.mk (4, -1, -1, -1, 0, []) [t]).op, toks (.mk (4, -1, -1, -1, 0, []) [t])) = toks (.mk (4, -1, -1, -1, 0, []) [t]) := by
          unfold partX
          exact if_pos (show (markX 4).2 ≥ 9 by decide)
        rw [toks_un (t := .mk (4, -1, -1, -1, 0, []) [t]) (.inl rfl), hp, if_neg (by decide), List.nil_append, txt_cons, J_txt q1.1]
        rfl
      rw [Bool.not_true, cond_false, show ((0 : Int) == 0) = true from rfl, cond_true, s2, Option.bind_some, s1, Option.bind_some, ble_most (show 4 + (txt (toks (.mk (4, -1, -1, -1, 0, []) [t]))).length ≤ 274877906944 by omega), cond_true, he, beq_self_eq_true]
      rfl)

theorem lawShowSigns : LawOk T 0 := fun d _ => ⟨true, ShowSigns_eq d, rfl, rfl, rfl⟩

end Go.Proofs.YtoippcahbninnaaDoor.R
