/-
  OUR OWN: a region whose order is left open: soundness.
-/
import Derived.Test.YtomofgclaiaikaaBmEv
namespace Go.Bm
set_option linter.unusedVariables false
set_option linter.unusedSimpArgs false

/-- The blocks that may be turned from here on. -/
def Free (β : Loc) (s : St) (b : Nat) : Prop := ∃ id ob p, look s.heap id = some ob ∧ ob.owned = true ∧ β id = some (some (b, p)) ∧ s.held id = false

/-- The worlds that may come. -/
def Fut (w : World) (β : Loc) (s : St) (w' : World) : Prop := Same w (Free β s) w'

section
variable {P : Program} {R : Type} {w0 : World} {Φ0 own0 : Nat → Prop} {N : Frm} {w w' : World} {Φ Φ' : Nat → Prop} {β β' : Loc} {s s' : St} {a a' : Act}
variable {cx : Cx}

theorem evOp1_sound (hok : AllOk P cx) {ops : Array Oper} {i : Nat} {o : Oper} (hoi : ops[i]? = some o) (hN : ∀ d, o.dst = some d → N.ok d) {K : Act → World → Prop} {Q : Exit → Act → World → Prop} {k : St → Option R} {r : R}
    (hr : Rel w0 Φ0 own0 N w Φ β s a) (hk : ∀ s' a' w' Φ' β', Rel w0 Φ0 own0 N w' Φ' β' s' a' → k s' = some r → K a' w') (h : evOp1 cx ops.toList o s k = some r) : wpOp P ops Q i K a w := by
  have yes : ∀ {s1 : St}, Rel w0 Φ0 own0 N w Φ β s1 a → stepK cx o s1 k = some r → o.wp P a w K Q := fun hr1 h1 => stepK_sound hok hr1 hN hk h1
  have no : ∀ {s1 : St}, Rel w0 Φ0 own0 N w Φ β s1 a → k (s1.set o.dst .skip) = some r → K (a.put o.dst undef) w := fun hr1 h1 => hk _ _ _ _ _ (hr1.set (sv := .skip) (v := undef) rfl hN) h1
  unfold wpOp
  simp only [hoi]
  unfold evOp1 at h
  split at h
  · rename_i hg
    have hw : Region.wanted o (yielded ops a.tmps) = true := by simp [Region.wanted, hg]
    rw [if_pos hw]
    exact .inl (yes hr h)
  · rename_i j want hg
    split at h
    case h_2 => cases h
    rename_i d hd
    rw [nth_getElem?, Array.getElem?_toList] at hd
    split at h
    · rename_i b hb
      have hv : a.tmps.getD d undef = .bool b := hr.env d _ hb
      have hdl : d < a.tmps.size := by
        rcases Nat.lt_or_ge d a.tmps.size with g | g
        · exact g
        · have : a.tmps.getD d undef = undef := by simp [Array.getD, Nat.not_lt.2 g]
          rw [this] at hv; cases hv
      have hy : yielded ops a.tmps j = some b := by
        simp only [yielded, hd, Option.bind_some, getD_some hv hdl]
      have hw : Region.wanted o (yielded ops a.tmps) = (some b == some want) := by simp only [Region.wanted, hg, hy]
      have hs1 : Rel w0 Φ0 own0 N w Φ β (s.set (some d) (.one (.bool b))) a := set_same hr (by rw [hv]; rfl)
      cases b <;> cases want <;> simp only [guardK, cond_true, cond_false] at h <;> rw [hw]
      · rw [if_pos (by rfl)]; exact .inl (yes hs1 h)
      · rw [if_neg (by decide)]; exact no hs1 h
      · rw [if_neg (by decide)]; exact no hs1 h
      · rw [if_pos (by rfl)]; exact .inl (yes hs1 h)
    · rename_i hb
      have hv : a.tmps.getD d undef = undef := hr.env d _ hb
      have hy : yielded ops a.tmps j = none := by
        simp only [yielded, hd, Option.bind_some]
        rcases Nat.lt_or_ge d a.tmps.size with g | g
        · rw [getD_some hv g]; rfl
        · rw [Array.getElem?_eq_none g]
      have hw : Region.wanted o (yielded ops a.tmps) = false := by simp only [Region.wanted, hg, hy]; rfl
      rw [hw]
      exact no hr h
    · cases h

/-- A block that stays. -/
theorem fut_block (hr : Rel w0 Φ0 own0 N w Φ β s a) {id : Nat} {ob : SObj} {b p : Nat} (hl : look s.heap id = some ob) (ho : (ob.owned = true ∧ s.held id = true) ∨ ∃ e l, ob = .frz e l) (hb : β id = some (some (b, p))) (hw : Fut w β s w') : w'.heap[b]? = w.heap[b]? := by
  refine hw.block b (hr.hp.blt _ _ _ hb) ?_
  rintro ⟨id', ob', q, h1, h2, h3, h4⟩
  rcases ho with ⟨ho, hh⟩ | ⟨e, l, rfl⟩
  · have := hr.hp.inj id id' ob ob' b p q hl h1 ho h2 hb h3
    subst this
    rw [hh] at h4; cases h4
  · rcases hr.hp.ob id _ hl with ⟨k1, _⟩ | ⟨b', o', k1, k2, _⟩
    · rw [hb] at k1; cases k1
    · rw [hb] at k1; cases k1
      exact ObR_notΦ (hr.hp.ob id' ob' h1) h2 h3 k2

theorem fut_frz (hr : Rel w0 Φ0 own0 N w Φ β s a) {b : Nat} (hb : Φ b) (hw : Fut w β s w') : w'.heap[b]? = w.heap[b]? := by
  refine hw.block b (hr.hp.flt b hb) ?_
  rintro ⟨id', ob', q, h1, h2, h3, h4⟩
  exact ObR_notΦ (hr.hp.ob id' ob' h1) h2 h3 hb

/-- A stable operation: its value is the same in every world that may come. -/
theorem stable_pstep (hok : AllOk P cx) {o : Oper} {k : St → Option R} {r : R} {s0 : St} (hh : s0.hold = s.hold) (hhp : s0.heap = s.heap) (hr : Rel w0 Φ0 own0 N w Φ β s0 a) (hst : stableOp o s0 = true) (h : stepK cx o s0 k = some r) : PStep P R (Fut w β s) w Φ β s0 a o k r := by
  have up : PStep P R (fun _ => True) w Φ β s0 a o k r → PStep P R (Fut w β s) w Φ β s0 a o k r := fun ⟨x, v, h1, h2, h3⟩ => ⟨x, v, fun w' _ => h1 w' trivial, h2, h3⟩
  have hfut : ∀ w', Fut w β s w' → Fut w β s0 w' := fun w' h => by
    refine ⟨h.os, h.tape, h.output, h.size, fun b hb hn => h.block b hb ?_⟩
    rintro ⟨id, ob, p, h1, h2, h3, h4⟩
    exact hn ⟨id, ob, p, by rw [hhp]; exact h1, h2, h3, by unfold St.held at *; rw [hh]; exact h4⟩
  cases ho : o.op with
  | move x => exact up (pstep_move hr (.inl ho) h)
  | assign x => exact up (pstep_move hr (.inr ho) h)
  | pick c x y => exact up (pstep_pick hr ho h)
  | build t ps => exact up (pstep_build hok.ok hr ho h)
  | makeFunc fn x y =>
    cases fn with
    | func f => exact up (pstep_makeFunc hr ho h)
    | _ => simp [stepK, ho] at h
  | load t x =>
    refine pstep_load (K := fun b => ∀ w', Fut w β s w' → w'.heap[b]? = w.heap[b]?) hok.ok hr (fun w' h b hb => hb w' h) ho (fun v hv => ?_) h
    simp only [stableOp, ho, hv] at hst
    have hld : ∃ td, loadK s0 td v (fun r => k (s0.set o.dst r)) = some r := by
      simp only [stepK, ho] at h
      split at h
      · rename_i td u htd hx
        rw [hv] at hx; cases hx
        exact ⟨td, h⟩
      · cases h
    obtain ⟨td, hld⟩ := hld
    unfold LoadsIn
    split
    · rename_i id off
      intro b p hb w' hw'
      simp only at hst
      cases hl : look s0.heap id with
      | none => simp [loadK, hl] at hld
      | some ob =>
        have hown : ob.owned = true := by
          cases ob with
          | dead => simp [loadK, hl] at hld
          | frz _ _ => simp [loadK, hl] at hld
          | _ => rfl
        exact fut_block hr hl (.inl ⟨hown, hst⟩) hb (hfut w' hw')
    · rename_i id i off
      intro b p hb w' hw'
      simp only [Bool.or_eq_true] at hst
      cases hl : look s0.heap id with
      | none => simp [loadK, hl] at hld
      | some ob =>
        refine fut_block hr hl ?_ hb (hfut w' hw')
        cases ob with
        | dead => simp [loadK, hl] at hld
        | frz e l => exact .inr ⟨e, l, rfl⟩
        | _ =>
          rcases hst with g | g
          · exact .inl ⟨rfl, g⟩
          · rw [hl] at g; cases g
    · intro b hb w' hw'
      exact fut_frz hr hb (hfut w' hw')
    · trivial
  | lookup t x i b =>
    refine pstep_lookup (K := fun b => ∀ w', Fut w β s w' → w'.heap[b]? = w.heap[b]?) hok.ok hr (fun w' h b hb => hb w' h) ho (fun id hv b p hb hm w' hw' => ?_) h
    obtain ⟨c, v, g, l, hm⟩ := hm
    simp only [stableOp, ho, hv] at hst
    exact fut_block hr hm (.inl ⟨rfl, hst⟩) hb (hfut w' hw')
  | nilCheck x => exact up (pstep_nilCheck hr ho h)
  | binOp op t x y t' => exact up (pstep_bin hok.ok hr ho h)
  | unOp op t x => exact up (pstep_un hr ho h)
  | convert t d x => exact up (pstep_convert hok.ok hr ho h)
  | slice t x lo hi mx =>
    cases mx with
    | none => exact up (pstep_slice hok.ok hr ho h)
    | some m => simp [stableOp, ho] at hst
  | fieldAddr t x f => exact up (pstep_fieldAddr hok.ok hr ho h)
  | field t x f => exact up (pstep_field hok.ok hr ho h)
  | indexAddr t x i => exact up (pstep_indexAddr hok.ok hr ho h)
  | index t x i => exact up (pstep_index hok.ok hr ho h)
  | extract x i => exact up (pstep_extract hr ho h)
  | call c =>
    simp only [stableOp, ho] at hst
    split at hst
    · rename_i hc; exact up (pstep_len hok.ok hr ho hc h)
    · rename_i hc; exact up (pstep_max hr ho (.inl hc) h)
    · rename_i hc; exact up (pstep_max hr ho (.inr hc) h)
    · cases hst
  | _ => simp [stableOp, ho] at hst

/-- A stable operation with its guard yields; and the run goes on behind it. -/
theorem stable_yields (hok : AllOk P cx) {ops : Array Oper} {o : Oper} {k : St → Option R} {r : R} (hN : ∀ d, o.dst = some d → N.ok d) (hr : Rel w0 Φ0 own0 N w Φ β s a)
    (h : evOpT cx ops.toList o s k = some r) : ∃ v s', YieldsIf P ops (Fut w β s) o v a ∧ Rel w0 Φ0 own0 N w Φ β s' (a.put o.dst v) ∧ s'.heap = s.heap ∧ s'.hold = s.hold ∧ k s' = some r := by
  have yes : ∀ {s1 : St}, Rel w0 Φ0 own0 N w Φ β s1 a → s1.hold = s.hold → s1.heap = s.heap → stepT cx o s1 k = some r → Region.wanted o (yielded ops a.tmps) = true →
      ∃ v s', YieldsIf P ops (Fut w β s) o v a ∧ Rel w0 Φ0 own0 N w Φ β s' (a.put o.dst v) ∧ s'.heap = s.heap ∧ s'.hold = s.hold ∧ k s' = some r := by
    intro s1 hr1 hh hhp h2 hw
    unfold stepT at h2
    obtain ⟨h1, h2⟩ := cond_none h2
    obtain ⟨x, v, g1, g2, g3⟩ := stable_pstep hok hh hhp hr1 h1 h2
    exact ⟨v, _, .inl ⟨hw, g1⟩, hr1.set g2 hN, by cases o.dst <;> exact hhp, by cases o.dst <;> exact hh, g3⟩
  have no : ∀ {s1 : St}, Rel w0 Φ0 own0 N w Φ β s1 a → s1.heap = s.heap → s1.hold = s.hold → k (s1.set o.dst .skip) = some r → Region.wanted o (yielded ops a.tmps) = false → ∃ v s', YieldsIf P ops (Fut w β s) o v a ∧ Rel w0 Φ0 own0 N w Φ β s' (a.put o.dst v) ∧ s'.heap = s.heap ∧ s'.hold = s.hold ∧ k s' = some r :=
    fun hr1 h2 h3 h1 hw => ⟨undef, _, .inr ⟨hw, rfl⟩, hr1.set (sv := .skip) (v := undef) rfl hN, by cases o.dst <;> exact h2, by cases o.dst <;> exact h3, h1⟩
  unfold evOpT at h
  split at h
  · rename_i hg
    exact yes hr rfl rfl h (by simp [Region.wanted, hg])
  · rename_i j want hg
    split at h
    case h_2 => cases h
    rename_i d hd
    rw [nth_getElem?, Array.getElem?_toList] at hd
    split at h
    · rename_i b hb
      have hv : a.tmps.getD d undef = .bool b := hr.env d _ hb
      have hdl : d < a.tmps.size := by
        rcases Nat.lt_or_ge d a.tmps.size with g | g
        · exact g
        · have : a.tmps.getD d undef = undef := by simp [Array.getD, Nat.not_lt.2 g]
          rw [this] at hv; cases hv
      have hy : yielded ops a.tmps j = some b := by
        simp only [yielded, hd, Option.bind_some, getD_some hv hdl]
      have hw : Region.wanted o (yielded ops a.tmps) = (some b == some want) := by simp only [Region.wanted, hg, hy]
      have hs1 : Rel w0 Φ0 own0 N w Φ β (s.set (some d) (.one (.bool b))) a := set_same hr (by rw [hv]; rfl)
      cases b <;> cases want <;> simp only [guardK, cond_true, cond_false] at h
      · exact yes hs1 rfl rfl h (by rw [hw]; rfl)
      · exact no hs1 rfl rfl h (by rw [hw]; decide)
      · exact no hs1 rfl rfl h (by rw [hw]; decide)
      · exact yes hs1 rfl rfl h (by rw [hw]; rfl)
    · rename_i hb
      have hv : a.tmps.getD d undef = undef := hr.env d _ hb
      have hy : yielded ops a.tmps j = none := by
        simp only [yielded, hd, Option.bind_some]
        rcases Nat.lt_or_ge d a.tmps.size with g | g
        · rw [getD_some hv g]; rfl
        · rw [Array.getElem?_eq_none g]
      exact no hr rfl rfl h (by simp only [Region.wanted, hg, hy]; rfl)
    · cases h

theorem wpAnyH_weak {md : Region.Mode} {ops : Array Oper} {Q : Exit → Act → World → Prop} {S S' : World → Prop} (h : ∀ w, S w → S' w) : ∀ (n : Nat) (listed : Array Bool) (a : Act) (w : World), wpAnyH P md ops Q S n listed a w → wpAnyH P md ops Q S' n listed a w
  | 0, _, _, _, g => g
  | n + 1, listed, a, w, g => ⟨g.1, fun i hi => wpOp_mono (fun a' w' g' => ⟨h _ g'.1, wpAnyH_weak h n _ a' w' g'.2⟩) (g.2 i hi)⟩

/-- The frame of a step in an open order. -/
def drawN (own0 : Nat → Prop) (w0 : World) (N : Frm) (w : World) (β : Loc) (s : St) : Frm :=
  ⟨N.n, N.fix, fun id x => s.held id = true ∧ β id = some x ∧ ∀ b p, x = some (b, p) → own0 b ∨ w0.heap.size ≤ b ∨ ∃ p, N.held id (some (b, p)), N.kid, w, β, s.heap⟩

theorem Rel.rebase (hr : Rel w0 Φ0 own0 N w Φ β s a) : Rel w Φ (Free β s) (drawN own0 w0 N w β s) w Φ β s a := {
  env := hr.env
  hp := hr.hp
  own := fun id o b p h1 h2 h3 => by
    cases hh : s.held id with
    | false => exact .inl ⟨id, o, p, h1, h2, h3, hh⟩
    | true => exact .inr (.inr ⟨p, hh, h3, fun b' p' e => by cases e; exact hr.own id o b p h1 h2 h3⟩)
  same := .refl _ _
  fri := fun _ h => h
  fro := fun _ h => .inl h
  size := hr.size
  fix := hr.fix
  defers := hr.defers
  hold := fun id x h => ⟨h.1, h.2.1⟩
  keep := fun id _ => .refl .. }

theorem Rel.free_mine (hr : Rel w0 Φ0 own0 N w Φ β s a) {b : Nat} (h : Free β s b) : own0 b ∨ w0.heap.size ≤ b := by
  obtain ⟨id, ob, p, h1, h2, h3, h4⟩ := h
  exact hr.mine h4 h1 h2 h3

theorem Rel.unbase (hr : Rel w0 Φ0 own0 N w Φ β s a) (h : Rel w Φ (Free β s) (drawN own0 w0 N w β s) w' Φ' β' s' a') : Rel w0 Φ0 own0 N w' Φ' β' s' a' := {
  env := h.env
  hp := h.hp
  own := fun id o b p h1 h2 h3 => by
    rcases h.own id o b p h1 h2 h3 with g | g | ⟨q, g⟩
    · exact (hr.free_mine g).elim .inl (fun g => .inr (.inl g))
    · exact .inr (.inl (Nat.le_trans hr.same.size g))
    · exact g.2.2 b q rfl
  same := ⟨h.same.os.trans hr.same.os, h.same.tape.trans hr.same.tape, h.same.output.trans hr.same.output, Nat.le_trans hr.same.size h.same.size, fun b h1 h2 => by
    rw [h.same.block b (Nat.lt_of_lt_of_le h1 hr.same.size) (fun g => by rcases hr.free_mine g with g | g; exact h2 g; omega), hr.same.block b h1 h2]⟩
  fri := fun b hb => h.fri b (hr.fri b hb)
  fro := fun b hb => by
    rcases h.fro b hb with g | g | g
    · exact hr.fro b g
    · exact .inr (hr.free_mine g)
    · exact .inr (.inr (Nat.le_trans hr.same.size g))
  size := h.size
  fix := h.fix
  defers := h.defers
  hold := fun id x hx => h.hold id x ⟨(hr.hold id x hx).1, (hr.hold id x hx).2, fun b p e => by subst e; exact .inr (.inr ⟨p, hx⟩)⟩
  keep := fun id hid => (hr.keep id hid).trans (h.keep id hid) }

theorem fut_fut (hr : Rel w Φ (Free β s) (drawN own0 w0 N w β s) w' Φ' β' s' a') {w2 : World} (h : Fut w' β' s' w2) : Fut w β s w2 :=
  ⟨h.os.trans hr.same.os, h.tape.trans hr.same.tape, h.output.trans hr.same.output, Nat.le_trans hr.same.size h.size, fun b h1 h2 => by
    rw [h.block b (Nat.lt_of_lt_of_le h1 hr.same.size) (fun g => by rcases hr.free_mine g with g | g; exact h2 g; omega), hr.same.block b h1 h2]⟩

/-- Whatever order is picked. -/
theorem evOrd_sound (hok : AllOk P cx) {ops : Array Oper} {Q : Act → World → Prop} {k : St → Option R} {r : R} (hsel : Region.noSelect ops = true) (hN : ∀ (i : Nat) (o : Oper), ops[i]? = some o → ∀ d, o.dst = some d → N.ok d)
    (hk : ∀ s' a' w' Φ' β', Rel w0 Φ0 own0 N w' Φ' β' s' a' → k s' = some r → Q a' w') : ∀ (t : OrdT) (n : Nat) (listed : Array Bool) {w : World} {Φ : Nat → Prop} {β : Loc} {s : St} {a : Act}, Rel w0 Φ0 own0 N w Φ β s a → evOrd cx ops.toList t s k = some r →
    (ordB ops true n listed t = true → wpAnyH P .any ops (fun e a w => e = .normal ∧ Q a w) (Fut w β s) n listed a w) ∧
    (∀ m, n = m + 1 → ordB ops false n listed t = true → ∀ i ∈ heads t, wpOp P ops (fun e a w => e = .normal ∧ Q a w) i (fun a' w' => Fut w β s w' ∧ wpAnyH P .any ops (fun e a w => e = .normal ∧ Q a w) (Fut w β s) m (listed.setIfInBounds i true) a' w') a w)
  | .done, n, listed, w, Φ, β, s, a, hr, h => by
    simp only [evOrd] at h
    refine ⟨fun hb => ?_, fun m _ hb => by simp [ordB] at hb⟩
    simp only [ordB, Bool.true_and, List.isEmpty_iff] at hb
    exact wpAnyH_done hb ⟨rfl, hk _ _ _ _ _ hr h⟩ n
  | .take i t, n, listed, w, Φ, β, s, a, hr, h => by
    refine ⟨fun hb => ?_, fun m e hb => by subst e; simp [ordB] at hb⟩
    cases n with
    | zero => simp [ordB] at hb
    | succ n =>
      simp only [ordB, Bool.true_and, Bool.and_eq_true] at hb
      simp only [evOrd] at h
      split at h
      case h_2 => cases h
      rename_i o ho
      have hoi : ops[i]? = some o := by rw [nth_getElem?, Array.getElem?_toList] at ho; exact ho
      obtain ⟨v, s', g1, g2, g3, g4, g5⟩ := stable_yields hok (hN i o hoi) hr h
      have ih := (evOrd_sound hok hsel hN hk t n _ g2 g5).1 hb.2.2
      refine wpAnyH_take hoi hsel hb.1 hb.2.1 (fun c a w h => by cases h.1) g1 (.refl _ _) ?_
      refine wpAnyH_weak (fun w' hw' => ?_) n _ _ _ ih
      exact ⟨hw'.os, hw'.tape, hw'.output, hw'.size, fun b hb hn => hw'.block b hb (fun ⟨id, ob, p, a1, a2, a3, a4⟩ => hn ⟨id, ob, p, by rw [← g3]; exact a1, a2, a3, by unfold St.held at *; rw [← g4]; exact a4⟩)⟩
  | .only i t, n, listed, w, Φ, β, s, a, hr, h => by
    have step : ∀ m, n = m + 1 → ordB ops true m (listed.setIfInBounds i true) t = true → wpOp P ops (fun e a w => e = .normal ∧ Q a w) i (fun a' w' => Fut w β s w' ∧ wpAnyH P .any ops (fun e a w => e = .normal ∧ Q a w) (Fut w β s) m (listed.setIfInBounds i true) a' w') a w := by
      intro m e hb
      simp only [evOrd] at h
      split at h
      case h_2 => cases h
      rename_i o ho
      have hoi : ops[i]? = some o := by rw [nth_getElem?, Array.getElem?_toList] at ho; exact ho
      refine evOp1_sound (N := drawN own0 w0 N w β s) hok hoi (hN i o hoi) hr.rebase (fun s' a' w' Φ' β' hr' h' => ⟨hr'.same, ?_⟩) h
      exact wpAnyH_weak (fun w2 h2 => fut_fut hr' h2) m _ _ _ ((evOrd_sound hok hsel hN hk t m _ (hr.unbase hr') h').1 hb)
    refine ⟨fun hb => ?_, fun m e hb j hj => ?_⟩
    · cases n with
      | zero => simp [ordB] at hb
      | succ n =>
        simp only [ordB, Bool.not_true, Bool.false_or, Bool.and_eq_true] at hb
        refine wpAnyH_all (rs := Region.ready .any ops listed) rfl (fun e => by rw [e] at hb; simp at hb) fun j hj => ?_
        have := List.all_eq_true.1 hb.1.2 j hj
        have := Nat.eq_of_beq_eq_true this
        subst this
        exact step n rfl hb.2
    · subst e
      simp only [ordB, Bool.not_false, Bool.true_or, Bool.true_and] at hb
      simp only [heads, List.mem_singleton] at hj
      subst hj
      exact step m rfl hb
  | .alt i t q, n, listed, w, Φ, β, s, a, hr, h => by
    have parts : ∃ o, ops[i]? = some o ∧ evOp1 cx ops.toList o s (fun s' => evOrd cx ops.toList t s' k) = some r ∧ evOrd cx ops.toList q s k = some r := by
      simp only [evOrd] at h
      split at h
      case h_2 => cases h
      rename_i o ho
      have hoi : ops[i]? = some o := by rw [nth_getElem?, Array.getElem?_toList] at ho; exact ho
      obtain ⟨h1, h2⟩ := agree_some h
      exact ⟨o, hoi, h1, h2⟩
    obtain ⟨o, hoi, h1, h2⟩ := parts
    have all : ∀ m, n = m + 1 → ordB ops true m (listed.setIfInBounds i true) t = true → ordB ops false (m + 1) listed q = true → ∀ j ∈ heads (.alt i t q), wpOp P ops (fun e a w => e = .normal ∧ Q a w) j (fun a' w' => Fut w β s w' ∧ wpAnyH P .any ops (fun e a w => e = .normal ∧ Q a w) (Fut w β s) m (listed.setIfInBounds j true) a' w') a w := by
      intro m e b1 b2 j hj
      subst e
      simp only [heads, List.mem_cons] at hj
      rcases hj with hj | hj
      · subst hj
        refine evOp1_sound (N := drawN own0 w0 N w β s) hok hoi (hN j o hoi) hr.rebase (fun s' a' w' Φ' β' hr' h' => ⟨hr'.same, ?_⟩) h1
        exact wpAnyH_weak (fun w2 h2 => fut_fut hr' h2) m _ _ _ ((evOrd_sound hok hsel hN hk t m _ (hr.unbase hr') h').1 b1)
      · exact (evOrd_sound hok hsel hN hk q (m + 1) listed hr h2).2 m rfl b2 j hj
    refine ⟨fun hb => ?_, fun m e hb j hj => ?_⟩
    · cases n with
      | zero => simp [ordB] at hb
      | succ n =>
        simp only [ordB, Bool.not_true, Bool.false_or, Bool.and_eq_true] at hb
        refine wpAnyH_all (rs := Region.ready .any ops listed) rfl (fun e => by rw [e] at hb; simp at hb) fun j hj => ?_
        exact all n rfl hb.2.1 hb.2.2 j (has_mem.1 (List.all_eq_true.1 hb.1.2 j hj))
    · subst e
      simp only [ordB, Bool.not_false, Bool.true_or, Bool.true_and, Bool.and_eq_true] at hb
      exact all m rfl hb.1 hb.2 j hj

/-- What is held may be turned round as long as nothing is held from outside. -/
theorem Rel.hold_any (hr : Rel w0 Φ0 own0 N w Φ β s a) (hno : ∀ id b, ¬ N.held id b) (l : List Nat) : Rel w0 Φ0 own0 N w Φ β { s with hold := l } a :=
  ⟨hr.env, ⟨hr.hp.ob, hr.hp.lt, hr.hp.hlt, hr.hp.inj, hr.hp.blt, hr.hp.flt⟩, hr.own, hr.same, hr.fri, hr.fro, hr.size, hr.fix, hr.defers, fun id x h => absurd h (hno id x), hr.keep⟩

theorem evDraw_sound (hok : AllOk P cx) (hno : ∀ id b, ¬ N.held id b) {id : Nat} {ops : Array Oper} {Q : Exit → Act → World → Prop} {k : St → Option R} {r : R} {slots : List Nat} {t : OrdT} (hN : ∀ o ∈ ops.toList, ∀ d, o.dst = some d → N.ok d)
    (hc : Region.noSelect ops = true ∧ ordB ops true ops.size (Array.replicate ops.size false) t = true) (hr : Rel w0 Φ0 own0 N w Φ β s a)
    (hk : ∀ s' a' w' Φ' β', Rel w0 Φ0 own0 N w' Φ' β' s' a' → k s' = some r → Q .normal a' w') (h : evDraw cx slots t ops.toList s k = some r) : (Code.region id ops true).wp P Q a w := by
  unfold evDraw at h
  have h1 := (evOrd_sound (Q := fun a w => Q .normal a w) hok hc.1 (fun i o hi d hd => hN o (by rw [← Array.getElem?_toList] at hi; exact List.mem_of_getElem? hi) d hd)
    (fun s' a' w' Φ' β' hr' h' => hk _ a' w' Φ' β' (hr'.hold_any hno []) h') t ops.size (Array.replicate ops.size false) ((hr.hold_any hno _).drew) h).1 hc.2
  refine wp_mono (wp_region_held hok.mixed h1) fun e a w h => ?_
  rw [h.1]; exact h.2

end
end Go.Bm
