/-
  OUR OWN: the law TypesPut comes to true.
-/
import Derived.Test.YtomofgclaiaikaaTypT
import Derived.Test.YtomofgclaiaikaaTreeJ
import Derived.Test.YtomofgclaiaikaaResOk
namespace Go.Proofs.Ytomofgclaiaikaa.R
open Go Go.Bm Go.Proofs
set_option linter.unusedVariables false
set_option linter.unusedSimpArgs false
set_option maxRecDepth 4000

theorem splive_eq : c1 T.rf = some true := live_run

section
variable (s : List UInt8) (u : Tr)
mutual
/-- A tree in the place of a stream. -/
def subT : Tr → Tr
  | .mk b ks => if b.1 = 3 ∧ b.2.2.2.2.2 = s then u else .mk b (subTs ks)
def subTs : List Tr → List Tr
  | [] => []
  | t :: r => subT t :: subTs r
end
end

theorem nodeT_al {S : List Pm} {U : List Un} {op : Int} {nm : List UInt8} {ts al bl : List Int} (h : op ≠ 27) : nodeT S U op nm ts al = nodeT S U op nm ts bl := by
  unfold nodeT
  by_cases h28 : op = 28
  · rw [if_pos h28, if_pos h28]
  rw [if_neg h28, if_neg h28]
  by_cases h3 : op = 3
  · rw [if_pos h3, if_pos h3]
  rw [if_neg h3, if_neg h3, if_neg h, if_neg h]

theorem nodeT_var {S : List Pm} {U : List Un} {nm : List UInt8} {ts al ts' al' : List Int} : nodeT S U 3 nm ts al = nodeT S U 3 nm ts' al' := rfl

theorem arity_var {b : Nd} {m : Nat} (h : Arity b m) (h3 : b.1 = 3) : m = 0 := by
  have h1 := h (List.replicate m 0) (by simp) (by intro x hx; have := List.eq_of_mem_replicate hx; omega)
  have hop : (aim b (List.replicate m 0)).1 = 3 := by rw [aim_op]; exact h3
  have : kids (aim b (List.replicate m 0)) = [] := by
    unfold kids
    rw [if_neg (by omega), if_neg (by omega), if_neg (by omega), if_neg (by omega), if_neg (by omega)]
  rw [this] at h1
  have := congrArg List.length h1
  simpa using this.symm
theorem arity_args {b : Nd} {m : Nat} (h : Arity b m) (h28 : b.1 = 28) : m ≤ 2 := by
  have h1 := h (List.replicate m 0) (by simp) (by intro x hx; have := List.eq_of_mem_replicate hx; omega)
  have hop : (aim b (List.replicate m 0)).1 = 28 := by rw [aim_op]; exact h28
  have h2 : (kids (aim b (List.replicate m 0))).length ≤ 2 := by
    unfold kids
    rw [if_neg (by omega)]
    split
    · simp
    · rw [if_neg (by omega), if_neg (by omega), if_pos (by omega)]; simp
  rw [h1, List.length_replicate] at h2
  exact h2

/-- What the head of a list of operands is, if it is a list of arguments. -/
def HeadT (S : List Pm) (U : List Un) (s : List UInt8) (u : Tr) : List Tr → Prop
  | [] => True
  | p :: _ => p.op = 28 → argTs S U (subT s u p) = argTs S U p

mutual
theorem subT_typ {S : List Pm} {U : List Un} {s : List UInt8} {u : Tr} (hty : (nodeT S U 3 s [] []).1 = typT S U u) (hz : (nodeT S U 3 s [] []).2 = 0) (hok : okT S U u = true) : ∀ t : Tr, Valid t → typT S U (subT s u t) = typT S U t ∧ okT S U (subT s u t) = okT S U t ∧ (t.op = 28 → argTs S U (subT s u t) = argTs S U t)
  | .mk b ks, hv => by
    rw [Valid] at hv
    obtain ⟨_, hA, _, _, hargs, hks⟩ := hv
    obtain ⟨i1, i2, i3⟩ := subTs_typ hty hz hok ks hks
    rw [subT]
    by_cases h : b.1 = 3 ∧ b.2.2.2.2.2 = s
    · rw [if_pos h]
      have hm := arity_var hA h.1
      have : ks = [] := List.eq_nil_of_length_eq_zero hm
      subst this
      refine ⟨?_, ?_, fun h28 => ?_⟩
      · rw [typT_eq, h.1, h.2, ← hty]; rfl
      · rw [okT_eq, h.1, h.2, hok, okTs, Bool.true_and]
        exact (dt hz).symm
      · exact absurd (show b.1 = 28 from h28) (by omega)
    · rw [if_neg h]
      have hn : nodeT S U b.1 b.2.2.2.2.2 (typTs S U (subTs s u ks)) (callTs S U (subTs s u ks)) = nodeT S U b.1 b.2.2.2.2.2 (typTs S U ks) (callTs S U ks) := by
        rw [i1]
        by_cases h27 : b.1 = 27
        · congr 1
          cases ks with
          | nil => rfl
          | cons p r =>
            rw [argsT, Bool.and_eq_true, argT, dt h27, Bool.true_or] at hargs
            have hp : p.op = 28 := of_decide_eq_true (eq_of_beq hargs.1)
            rw [subTs, callTs, callTs]
            exact i3 hp
        · exact nodeT_al h27
      refine ⟨by rw [typT_eq, typT_eq, hn], by rw [okT_eq, okT_eq, i2, hn], fun h28 => ?_⟩
      have h28' : b.1 = 28 := h28
      have h2 := arity_args hA h28'
      rw [argTs_eq, argTs_eq]
      match ks, i1, i3, hargs, h2 with
      | [], _, _, _, _ => rfl
      | [x], i1, _, _, _ =>
        rw [subTs, subTs, argKs, argKs]
        rw [subTs, subTs, typTs, typTs, typTs, typTs] at i1
        exact i1
      | [p, x], i1, i3, hargs, _ =>
        rw [argsT, Bool.and_eq_true, argT, dt h28', dt (show [p, x].length = 2 from rfl), dt (show (0 : Nat) = 0 from rfl)] at hargs
        have hp : p.op = 28 := of_decide_eq_true (by simpa using hargs.1)
        rw [subTs, subTs, subTs, argKs, argKs]
        rw [subTs, subTs, subTs] at i1
        simp only [typTs] at i1
        rw [i3 hp, (List.cons.inj (List.cons.inj i1).2).1]
      | _ :: _ :: _ :: _, _, _, _, h2 => simp at h2
theorem subTs_typ {S : List Pm} {U : List Un} {s : List UInt8} {u : Tr} (hty : (nodeT S U 3 s [] []).1 = typT S U u) (hz : (nodeT S U 3 s [] []).2 = 0) (hok : okT S U u = true) : ∀ ts : List Tr, Valids ts → typTs S U (subTs s u ts) = typTs S U ts ∧ okTs S U (subTs s u ts) = okTs S U ts ∧ HeadT S U s u ts
  | [], _ => ⟨rfl, rfl, trivial⟩
  | t :: r, hv => by
    rw [Valids] at hv
    obtain ⟨a1, a2, a3⟩ := subT_typ hty hz hok t hv.1
    obtain ⟨b1, b2, b3⟩ := subTs_typ hty hz hok r hv.2
    exact ⟨by rw [subTs, typTs, typTs, a1, b1], by rw [subTs, okTs, okTs, a2, b2], a3⟩
end

/-- Where the nodes ahead were put. -/
def PutAt (s : List UInt8) (u : Tr) (e o : List Nd) (at_ : List Int) (m : Nat) : Prop :=
  ∀ i t, i < m → Emb e i t → Emb o (at_.getD i 0).toNat (subT s u t) ∧ 0 ≤ at_.getD i 0 ∧ at_.getD i 0 < o.length

theorem putAt_app {s : List UInt8} {u : Tr} {e o : List Nd} {at_ : List Int} {m : Nat} (h : PutAt s u e o at_ m) (hm : at_.length = m) (o2 : List Nd) (y : Int)
    (hy : ∀ t, Emb e m t → Emb (o ++ o2) y.toNat (subT s u t) ∧ 0 ≤ y ∧ y < (o ++ o2).length) : PutAt s u e (o ++ o2) (at_ ++ [y]) (m + 1) := by
  intro i t hi ht
  by_cases he : i = m
  · subst he
    have : (at_ ++ [y]).getD i 0 = y := by
      rw [List.getD_eq_getElem?_getD, List.getElem?_append_right (by omega), hm, Nat.sub_self]; rfl
    rw [this]; exact hy t ht
  · have : (at_ ++ [y]).getD i 0 = at_.getD i 0 := by
      rw [List.getD_eq_getElem?_getD, List.getElem?_append_left (by omega), ← List.getD_eq_getElem?_getD]
    rw [this]
    obtain ⟨h1, h2, h3⟩ := h i t (by omega) ht
    exact ⟨emb_app o2 _ _ h1, h2, by rw [List.length_append]; omega⟩

theorem embs_put {s : List UInt8} {u : Tr} {e o : List Nd} {at_ : List Int} {m : Nat} (h : PutAt s u e o at_ m) (o2 : List Nd) : ∀ (l : List Int) (ts : List Tr) (i : Nat), i ≤ m → Embs e i l ts → Embs (o ++ o2) o.length (atL at_ l) (subTs s u ts)
  | [], [], i, _, _ => by rw [subTs]; trivial
  | k :: l, t :: ts, i, hi, ⟨h1, h2, h3, h4⟩ => by
    obtain ⟨g1, g2, g3⟩ := h k.toNat t (by omega) h3
    rw [subTs]
    exact ⟨g2, g3, emb_app o2 _ _ g1, embs_put h o2 l ts i hi h4⟩
  | [], _ :: _, i, _, h => by simp [Embs] at h
  | _ :: _, [], i, _, h => by simp [Embs] at h

theorem splace1 (x s : List UInt8) : (0 ≤ placeI x [s] 0 ↔ x = s) ∧ (0 ≤ placeI x [s] 0 → placeI x [s] 0 = 0) := by
  simp only [placeI]
  by_cases e : s = x
  · rw [if_pos e]; exact ⟨⟨fun _ => e.symm, fun _ => by simp⟩, fun _ => rfl⟩
  · rw [if_neg e]; exact ⟨⟨fun h => absurd h (by decide), fun h => absurd h.symm e⟩, fun h => absurd h (by decide)⟩

theorem put_emb {s : List UInt8} {b : List Nd} {u : Tr} (hb : mayB b = true) (hbl : b.length ≤ 100) (hu : Emb (norm b) ((norm b).length - 1) u) {e : List Nd} (hM : MayP e) :
    ∀ (suf pre o : List Nd) (at_ : List Int), e = pre ++ suf → at_.length = pre.length → o.length ≤ 101 * pre.length → PutAt s u e o at_ pre.length → (pre ≠ [] → at_.getD (pre.length - 1) 0 = (o.length : Int) - 1) →
    ∀ t, Emb e (e.length - 1) t → Emb (putL [s] [b] suf o at_) ((putL [s] [b] suf o at_).length - 1) (subT s u t)
  | [], pre, o, at_, h, ha, hl, hP, hlast, t, ht => by
    rw [List.append_nil] at h
    subst h
    have hne := hM.ne
    have hpos := List.length_pos_iff.2 hne
    obtain ⟨h1, h2, h3⟩ := hP (e.length - 1) t (by omega) ht
    rw [hlast hne] at h1 h2 h3
    rw [putL, show o.length - 1 = ((o.length : Int) - 1).toNat by omega]
    exact h1
  | n :: suf, pre, o, at_, h, ha, hl, hP, hlast, t, ht => by
    have hn : nth e pre.length = some n := by rw [h, nth_getElem?]; simp
    have hel := hM.len
    have hil := nth_lt hn
    have hno := of_decide_eq_true (hM.node _ n hn)
    have hal := hM.ahead _ n hn
    obtain ⟨b1, b2, _, _⟩ := norm_may hb
    have hbpos := List.length_pos_iff.2 (may_P b1).ne
    have hpl : (pre ++ [n]).length = pre.length + 1 := by simp
    rw [putL]
    by_cases hv : n.1 = 3 ∧ n.2.2.2.2.2 = s
    · have hpl0 := (splace1 n.2.2.2.2.2 s).1.2 hv.2
      have hp0 := (splace1 n.2.2.2.2.2 s).2 hpl0
      have hif : (if n.1 = 3 ∧ 0 ≤ placeI n.2.2.2.2.2 [s] 0 then o ++ (norm (([b] : List (List Nd)).getD (placeI n.2.2.2.2.2 [s] 0).toNat [])).map (mv o.length) else o ++ [aim n (atL at_ (kids n))]) = o ++ (norm b).map (mv o.length) := by
        rw [if_pos ⟨hv.1, hpl0⟩, hp0]; rfl
      simp only [hif]
      have hol : (o ++ (norm b).map (mv o.length)).length = o.length + (norm b).length := by simp
      refine put_emb hb hbl hu hM suf (pre ++ [n]) _ _ (by rw [h]; simp) (by simp [ha]) (by rw [hol, hpl]; omega) ?_ (fun _ => ?_) t ht
      · rw [hpl]
        refine putAt_app hP ha _ _ (fun t ht => ⟨?_, by omega, by omega⟩)
        obtain ⟨bb, ks⟩ := t
        obtain ⟨m, g1, g2, g3, g4⟩ := ht
        rw [hn] at g1
        obtain rfl := Option.some.inj g1
        have h3 : bb.1 = n.1 := by rw [g2]; rfl
        have h4 : bb.2.2.2.2.2 = n.2.2.2.2.2 := by rw [g2]; rfl
        rw [subT, if_pos (by rw [h3, h4]; exact hv)]
        have := emb_mv o (e := norm b) (by omega) u _ hu
        rw [hol, show (((o.length + (norm b).length : Nat) : Int) - 1).toNat = o.length + ((norm b).length - 1) by omega]
        exact this
      · rw [hpl, hol, List.getD_eq_getElem?_getD, List.getElem?_append_right (by omega), ha, show pre.length + 1 - 1 - pre.length = 0 by omega]; rfl
    · have hnv : ¬ (n.1 = 3 ∧ 0 ≤ placeI n.2.2.2.2.2 [s] 0) := fun hh => hv ⟨hh.1, (splace1 _ _).1.1 hh.2⟩
      simp only [if_neg hnv]
      have hol : (o ++ [aim n (atL at_ (kids n))]).length = o.length + 1 := by simp
      refine put_emb hb hbl hu hM suf (pre ++ [n]) _ _ (by rw [h]; simp) (by simp [ha]) (by rw [hol, hpl]; omega) ?_ (fun _ => ?_) t ht
      · rw [hpl]
        refine putAt_app hP ha _ _ (fun t ht => ⟨?_, by omega, by omega⟩)
        obtain ⟨bb, ks⟩ := t
        obtain ⟨m, g1, g2, g3, g4⟩ := ht
        rw [hn] at g1
        obtain rfl := Option.some.inj g1
        have h3 : bb.1 = n.1 := by rw [g2]; rfl
        have h4 : bb.2.2.2.2.2 = n.2.2.2.2.2 := by rw [g2]; rfl
        rw [subT, if_neg (by rw [h3, h4]; exact hv), hol, show (((o.length + 1 : Nat) : Int) - 1).toNat = o.length by omega]
        have hE := embs_put hP [aim n (atL at_ (kids n))] _ _ _ (Nat.le_refl _) g4
        have hr := embs_range hE
        have hA := kids_aim n (by rw [← g2]; exact g3) (fun x hx => by have := hal x hx; omega)
        have hlen : (atL at_ (kids n)).length = (kids n).length := by simp [atL]
        have hkk := hA (atL at_ (kids n)) hlen (fun x hx => by have := hr x hx; omega)
        have hm : aim n (atL at_ (kids n)) = aim bb (atL at_ (kids n)) := by
          conv => lhs; arg 1; rw [g3]
          exact aim_aim _ _ _ hlen.symm
        rw [← g2] at hkk
        refine ⟨aim n (atL at_ (kids n)), by rw [nth_getElem?]; simp, by rw [blank_aim]; exact g2, ?_, ?_⟩
        · rw [hm, hkk]
        · conv => arg 3; rw [hm, hkk]
          exact hE
      · rw [hpl, hol, List.getD_eq_getElem?_getD, List.getElem?_append_right (by omega), ha, show pre.length + 1 - 1 - pre.length = 0 by omega]; rfl

theorem sjoin_var (s : List UInt8) : join 3 0 s [] = [(3, -1, -1, -1, 0, s)] := by
  simp [join, kids, joinL, keptK, aim]

theorem TypesPut_eq (e by_ : List Nd) (S : List Pm) (s : List UInt8) : c105 T.rf (e, by_, S, s) = some true := or105 (by
  simp only [r105, splive_eq, Option.bind_some]
  by_cases h1 : e.length ≤ 100
  case neg => rw [dt (by omega), cond_true]
  by_cases h2 : by_.length ≤ 100
  case neg => rw [df (by omega), cond_false, dt (by omega), cond_true]
  by_cases h3 : S.length ≤ 60
  case neg => rw [df (by omega), cond_false, df (by omega), cond_false, dt (by omega), cond_true]
  have hE : EnvOk S [] := ⟨by omega, by simp, by simp⟩
  have j1 : c28 T.rf 3 0 s [] = some [(3, -1, -1, -1, 0, s)] := by rw [← sjoin_var]; exact refJoin_eq (by simp [total]) (by simp)
  rw [df (by omega), cond_false, df (by omega), cond_false, df (by omega), cond_false, OfTy_eq hE (by omega), Option.bind_some, OfTy_eq hE (by omega), Option.bind_some, j1, Option.bind_some, OfTy_eq hE (by simp), Option.bind_some]
  by_cases g1 : (ofTy e S []).2 = 0
  case neg => rw [nbf g1, cond_true]
  by_cases g2 : (ofTy by_ S []).2 = 0
  case neg => rw [nbt g1, cond_false, nbf g2, cond_true]
  by_cases g3 : (ofTy [(3, -1, -1, -1, 0, s)] S []).2 = 0
  case neg => rw [nbt g1, cond_false, nbt g2, cond_false, nbf g3, cond_true]
  by_cases g4 : (ofTy by_ S []).1 = (ofTy [(3, -1, -1, -1, 0, s)] S []).1
  case neg => rw [nbt g1, cond_false, nbt g2, cond_false, nbt g3, cond_false, nbf g4, cond_true]
  have may_of : ∀ x : List Nd, (ofTy x S []).2 = 0 → mayB x = true := fun x hx => by
    cases hm : mayB x
    · rw [ofTy_not S [] hm] at hx; exact absurd hx (by decide)
    · rfl
  have m1 := may_of _ g1
  have m2 := may_of _ g2
  have m3 := may_of _ g3
  obtain ⟨t, ht, hvt, _⟩ := may_tree m1
  obtain ⟨u, hu, _⟩ := may_tree m2
  have hw : Emb [(3, -1, -1, -1, 0, s)] (([(3, -1, -1, -1, 0, s)] : List Nd).length - 1) (.mk (3, -1, -1, -1, 0, s) []) := ⟨(3, -1, -1, -1, 0, s), rfl, rfl, rfl, trivial⟩
  have ok_of : ∀ (x : List Nd) (v : Tr), mayB x = true → Emb x (x.length - 1) v → (ofTy x S []).2 = 0 → okT S [] v = true ∧ ofTy x S [] = (typT S [] v, 0) := fun x v hx hv h0 => by
    obtain ⟨k1, k2⟩ := ofTy_tree S [] hx hv
    cases hb : okT S [] v
    · exact absurd h0 (k2 hb).2
    · exact ⟨rfl, k1 hb⟩
  obtain ⟨o1, t1⟩ := ok_of _ _ m1 ht g1
  obtain ⟨o2, t2⟩ := ok_of _ _ m2 hu g2
  obtain ⟨o3, t3⟩ := ok_of _ _ m3 hw g3
  have hz : (nodeT S [] 3 s [] []).2 = 0 := by
    rw [okT_eq, okTs, Bool.true_and] at o3
    exact of_decide_eq_true o3
  have hty : (nodeT S [] 3 s [] []).1 = typT S [] u := by
    rw [t2, t3] at g4
    have g5 : typT S [] u = typT S [] (.mk (3, -1, -1, -1, 0, s) []) := g4
    rw [g5, typT_eq]; rfl
  have hby : ∀ x ∈ [by_], x.length ≤ 1000000 := fun x hx => by simp at hx; subst hx; omega
  have hp : put e [s] [by_] = putL [s] [by_] (norm e) [] [] := by
    unfold put; rw [if_pos ⟨m1, rfl, by simp [m2]⟩]
  have hlen : (putL [s] [by_] (norm e) [] []).length ≤ 1000000 := by
    have h3 := putL_len [s] [by_] (norm e) [] []
    have h4 := (norm_may m1).2.1
    simp only [List.length_nil] at h3; omega
  rw [nbt g1, cond_false, nbt g2, cond_false, nbt g3, cond_false, nbt g4, cond_false, refPut_eq (names := [s]) (by_ := [by_]) (show e.length ≤ 1000000 by omega) (by simp) (by simp) hby, hp, Option.bind_some, refMay_eq hlen, Option.bind_some]
  cases hm : mayB (putL [s] [by_] (norm e) [] [])
  · rfl
  have hemb := put_emb (s := s) m2 h2 (norm_tree m2 hu) (may_P (norm_may m1).1) (norm e) [] [] [] rfl rfl (by simp) (fun i t hi => by simp at hi) (fun hh => absurd rfl hh) t (norm_tree m1 ht)
  obtain ⟨q1, q2, _⟩ := subT_typ hty hz o2 t hvt
  have hfin := (ofTy_tree S [] hm hemb).1 (by rw [q2, o1])
  rw [Bool.not_true, cond_false, OfTy_eq hE hlen, Option.bind_some, hfin, q1, t1]
  simp only [beq_self_eq_true, cond_true])

theorem lawTypesPut : LawOk T 105 := fun d _ => ⟨true, TypesPut_eq d.1 d.2.1 d.2.2.1 d.2.2.2, rfl, rfl, rfl⟩

end Go.Proofs.Ytomofgclaiaikaa.R
