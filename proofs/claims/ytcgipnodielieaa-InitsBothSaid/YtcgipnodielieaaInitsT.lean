/-
  OUR OWN: from which instant on an expression is, said of its tree.
-/
import Derived.Test.YtcgipnodielieaaTreeU
import Derived.Test.YtcgipnodielieaaInitsB
namespace Go.Proofs.Ytcgipnodielieaa.R
open Go Go.Bm Go.Proofs
set_option linter.unusedVariables false
set_option linter.unusedSimpArgs false
set_option maxRecDepth 4000

def lateOf (op : Int) (l : Bool) : Bool := bif strict op then decide (op = 21) else l
mutual
def late : Tr → Bool
  | .mk b ks => lateOf b.1 (lates ks)
def lates : List Tr → Bool
  | [] => false
  | t :: r => late t || lates r
end
def trs (op : Int) (ks : List Tr) : List Tr := if op = 19 then ks.take 1 else ks
mutual
/-- Is something in it read ahead of its beginning? -/
def bad : Tr → Bool
  | .mk b ks => bads ks || (strict b.1 && lates (trs b.1 ks))
def bads : List Tr → Bool
  | [] => false
  | t :: r => bad t || bads r
end

theorem late_eq (b : Nd) (ks : List Tr) : late (.mk b ks) = lateOf b.1 (lates ks) := by rw [late]
theorem bad_eq (b : Nd) (ks : List Tr) : bad (.mk b ks) = (bads ks || (strict b.1 && lates (trs b.1 ks))) := by rw [bad]

/-- The flags of the nodes ahead are right. -/
def Right (e : List Nd) (acc : List Bool) (m : Nat) : Prop := ∀ i t, i < m → Emb e i t → acc.getD i false = late t ∧ bad t = false

theorem lateK_embs {e : List Nd} {acc : List Bool} {m : Nat} (h : Right e acc m) : ∀ (l : List Int) (ts : List Tr) (i : Nat), i ≤ m → Embs e i l ts → lateK acc l = lates ts ∧ bads ts = false
  | [], [], i, _, _ => ⟨rfl, rfl⟩
  | k :: l, t :: ts, i, hi, ⟨h1, h2, h3, h4⟩ => by
    have hk := h k.toNat t (by omega) h3
    have hr := lateK_embs h l ts i hi h4
    refine ⟨?_, by rw [bads, hk.2, hr.2]; rfl⟩
    rw [lates, ← hk.1, ← hr.1]; rfl
  | [], _ :: _, i, _, h => by simp [Embs] at h
  | _ :: _, [], i, _, h => by simp [Embs] at h

theorem embs_take {e : List Nd} {i : Nat} : ∀ (m : Nat) (l : List Int) (ts : List Tr), Embs e i l ts → Embs e i (l.take m) (ts.take m)
  | 0, l, ts, h => by simp [Embs]
  | m + 1, [], [], h => by simp [Embs]
  | m + 1, k :: l, t :: ts, ⟨h1, h2, h3, h4⟩ => ⟨h1, h2, h3, embs_take m l ts h4⟩
  | m + 1, [], _ :: _, h => by simp [Embs] at h
  | m + 1, _ :: _, [], h => by simp [Embs] at h

theorem latL_emb {e : List Nd} (hM : MayP e) : ∀ (suf pre : List Nd) (acc : List Bool), e = pre ++ suf → acc.length = pre.length → Right e acc pre.length →
    match latL suf acc with
    | some l => Right e l e.length
    | none => ∃ i, i < e.length ∧ ∀ t, Emb e i t → bad t = true
  | [], pre, acc, h, ha, hR => by
    rw [latL]; rw [h, List.append_nil] at hR ⊢; exact hR
  | n :: suf, pre, acc, h, ha, hR => by
    have hn : nth e pre.length = some n := by rw [h, nth_getElem?]; simp
    have hil : pre.length < e.length := by rw [h]; simp
    have tree : ∀ t, Emb e pre.length t → ∃ ks, t = .mk (blank n) ks ∧ lateK acc (kids n) = lates ks ∧ lateK acc (kidsI n) = lates (trs n.1 ks) ∧ bads ks = false := by
      intro t ht
      obtain ⟨b, ks⟩ := t
      obtain ⟨m, h1, h2, h3, h4⟩ := ht
      rw [hn] at h1
      obtain rfl := Option.some.inj h1
      have a1 := lateK_embs hR _ _ _ (Nat.le_refl _) h4
      refine ⟨ks, by rw [h2], a1.1, ?_, a1.2⟩
      unfold kidsI trs
      by_cases h19 : n.1 = 19
      · rw [if_pos h19, if_pos h19]
        exact (lateK_embs hR _ _ _ (Nat.le_refl _) (embs_take 1 _ _ h4)).1
      · rw [if_neg h19, if_neg h19]; exact a1.1
    have hpl : (pre ++ [n]).length = pre.length + 1 := by simp
    have step : ∀ y, (∀ t, Emb e pre.length t → y = late t ∧ bad t = false) → Right e (acc ++ [y]) (pre ++ [n]).length := by
      intro y hy i t hi ht
      rw [hpl] at hi
      by_cases he : i = pre.length
      · subst he
        have := hy t ht
        rw [List.getD_eq_getElem?_getD, List.getElem?_append_right (by omega), ha, Nat.sub_self]
        exact this
      · have := hR i t (by omega) ht
        rw [List.getD_eq_getElem?_getD, List.getElem?_append_left (by omega), ← List.getD_eq_getElem?_getD]
        exact this
    rw [latL]
    cases hs : strict n.1
    · rw [if_neg (by decide)]
      refine latL_emb hM suf (pre ++ [n]) _ (by rw [h]; simp) (by simp [ha]) (step _ fun t ht => ?_)
      obtain ⟨ks, rfl, k1, k2, k3⟩ := tree t ht
      refine ⟨?_, ?_⟩
      · rw [late_eq]; show _ = lateOf n.1 _
        rw [lateOf, hs, cond_false, k2, trs, if_neg (by intro h19; rw [h19] at hs; cases hs)]
      · rw [bad_eq, k3]; show (false || (strict n.1 && _)) = false
        rw [hs]; rfl
    · rw [if_pos rfl]
      cases hl : lateK acc (kidsI n)
      · rw [if_neg (by decide)]
        refine latL_emb hM suf (pre ++ [n]) _ (by rw [h]; simp) (by simp [ha]) (step _ fun t ht => ?_)
        obtain ⟨ks, rfl, k1, k2, k3⟩ := tree t ht
        refine ⟨?_, ?_⟩
        · rw [late_eq]; show _ = lateOf n.1 _
          rw [lateOf, hs, cond_true]
        · rw [bad_eq, k3]; show (false || (strict n.1 && lates (trs n.1 ks))) = false
          rw [hs, ← k2, hl]; rfl
      · rw [if_pos rfl]
        refine ⟨pre.length, hil, fun t ht => ?_⟩
        obtain ⟨ks, rfl, k1, k2, k3⟩ := tree t ht
        rw [bad_eq]; show (_ || (strict n.1 && lates (trs n.1 ks))) = true
        rw [hs, ← k2, hl]; simp

theorem bads_of {ts : List Tr} {t : Tr} (h : t ∈ ts) (hb : bad t = true) : bads ts = true := by
  induction ts with
  | nil => cases h
  | cons u ts ih =>
    rw [bads]
    rcases List.mem_cons.1 h with rfl | h
    · rw [hb]; rfl
    · rw [ih h]; simp

theorem embs_mem {e : List Nd} {i : Nat} : ∀ (l : List Int) (ts : List Tr), Embs e i l ts → ∀ k ∈ l, ∃ t ∈ ts, Emb e k.toNat t
  | [], [], _, k, hk => by cases hk
  | k :: l, t :: ts, ⟨h1, h2, h3, h4⟩, q, hq => by
    rcases List.mem_cons.1 hq with rfl | hq
    · exact ⟨t, List.mem_cons_self, h3⟩
    · obtain ⟨u, h5, h6⟩ := embs_mem l ts h4 q hq
      exact ⟨u, List.mem_cons_of_mem _ h5, h6⟩
  | [], _ :: _, h, _, _ => by simp [Embs] at h
  | _ :: _, [], h, _, _ => by simp [Embs] at h

theorem bad_up {e : List Nd} (h : mayB e = true) {i : Nat} (hi : i < e.length) (hb : ∀ t, Emb e i t → bad t = true) : ∀ t, Emb e (e.length - 1) t → bad t = true := by
  refine may_up h (fun j => ∀ t, Emb e j t → bad t = true) (fun i n k hn hk hp t ht => ?_) (e.length - 1 - i) i (by omega) hi hb
  obtain ⟨b, ks⟩ := t
  obtain ⟨m, h1, h2, h3, h4⟩ := ht
  rw [hn] at h1
  obtain rfl := Option.some.inj h1
  obtain ⟨u, h5, h6⟩ := embs_mem _ _ h4 k hk
  rw [bad_eq, bads_of h5 (hp u h6)]; rfl

def ofP (b l : Bool) : Int × Int := bif b then (0, 11) else (bif l then 1 else 0, 0)
def ofT (t : Tr) : Int × Int := ofP (bad t) (late t)

/-- **From which instant on an expression is, said of its tree.** -/
theorem ofE_tree {e : List Nd} {t : Tr} (h : mayB e = true) (ht : Emb e (e.length - 1) t) : ofE e = ofT t := by
  have hM := may_P h
  have hpos := List.length_pos_iff.2 hM.ne
  have h0 := latL_emb hM e [] [] rfl rfl (fun i t hi => by simp at hi)
  rw [ofE, if_pos h, ofT]
  cases hL : latL e [] with
  | none =>
    rw [hL] at h0
    obtain ⟨i, hi, hb⟩ := h0
    rw [bad_up h hi hb t ht]; rfl
  | some l =>
    rw [hL] at h0
    have hr := h0 (e.length - 1) t (by omega) ht
    have hll := latL_len e [] l hL
    simp only [List.length_nil, Nat.zero_add] at hll
    rw [hr.2, ← hr.1]
    have hg : l.getLastD false = l.getD (e.length - 1) false := by
      rw [List.getLastD_eq_getLast?, List.getLast?_eq_getElem?, hll, List.getD_eq_getElem?_getD]
    simp only [hg]
    cases l.getD (e.length - 1) false <;> rfl

end Go.Proofs.Ytcgipnodielieaa.R
