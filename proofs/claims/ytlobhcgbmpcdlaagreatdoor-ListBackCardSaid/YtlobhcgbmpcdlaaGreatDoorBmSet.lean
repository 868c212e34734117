import Derived.Test.YtlobhcgbmpcdlaaGreatDoorBmRel
namespace Go.Bm
set_option linter.unusedVariables false
theorem look_cons {α : Type} (k n : Nat) (v : α) (r : List (Nat × α)) : look ((k, v) :: r) n = if k = n then some v else look r n := by
 simp only [look]
 by_cases h : k = n
 · subst h; simp [Nat.beq_refl]
 · have : Nat.beq k n = false := by
    cases hb : Nat.beq k n
    · rfl
    · exact absurd (Nat.eq_of_beq_eq_true hb) h
   simp [this, h]
section
variable {w0 : World} {Φ0 own0 : Nat → Prop} {N : Frm} {w : World} {Φ : Nat → Prop} {β : Loc} {s : St} {a : Act}
theorem getD_put_same {a : Act} {d : Nat} {v : Value} (h : d < a.tmps.size) : (a.put (some d) v).tmps.getD d undef = v := by
 simp [Act.put, Array.getD, h]
theorem getD_put_other {a : Act} {d t : Nat} {v : Value} (h : d ≠ t) : (a.put (some d) v).tmps.getD t undef = a.tmps.getD t undef := by
 simp only [Act.put, Array.getD_eq_getD_getElem?, Array.getElem?_setIfInBounds_ne h]
theorem size_put {a : Act} {d : Option Nat} {v : Value} : (a.put d v).tmps.size = a.tmps.size := by
 cases d <;> simp [Act.put]
theorem defers_put {a : Act} {d : Option Nat} {v : Value} : (a.put d v).defers = a.defers := by
 cases d <;> simp [Act.put]
theorem Rel.set (h : Rel w0 Φ0 own0 N w Φ β s a) {dst : Option Nat} {sv : SVal} {v : Value} (hv : SVR w Φ β s.heap sv v) (hd : ∀ d, dst = some d → N.ok d) :
  Rel w0 Φ0 own0 N w Φ β (s.set dst sv) (a.put dst v) := by
 cases dst with
 | none => exact h
 | some d =>
   have hsz : d < a.tmps.size := by rw [h.size]; exact (hd d rfl).1
   refine ⟨?_, ⟨h.hp.ob, h.hp.lt, h.hp.hlt, h.hp.inj, h.hp.blt, h.hp.flt, h.hp.rin, h.hp.rinj⟩, h.own, h.same, h.fri, h.fro, by rw [size_put]; exact h.size, fun t v hv => by rw [getD_put_other (fun e => by subst e; rw [(hd d rfl).2] at hv; cases hv)]; exact h.fix t v hv, by rw [defers_put]; exact h.defers, h.hold, h.keep, h.rown⟩
   intro t u hu
   simp only [St.set, look_cons] at hu
   split at hu
   · rename_i e; subst e; cases hu; rw [getD_put_same hsz]; exact hv
   · rename_i e; rw [getD_put_other e]; exact h.env t u hu
theorem Rel.drew (h : Rel w0 Φ0 own0 N w Φ β s a) : Rel w0 Φ0 own0 N w.drew Φ β s a := by
 have m : Mono w Φ β s.heap w.drew Φ β s.heap := ⟨fun _ _ => rfl, fun _ h => h, fun _ _ h => h, fun _ _ _ _ h => h, fun _ _ _ _ _ _ => rfl⟩
 have hb : ∀ {id : Nat} {o : SObj} {c : Nat}, RowB w.drew β id o c → RowB w β id o c := fun h => RowB_of (w := w) (w' := w.drew) rfl (fun _ _ _ => rfl) h
 exact ⟨fun t v hv => SVR_mono m _ _ (h.env t v hv), ⟨fun id o ho => ObR_mono m (fun _ _ _ => rfl) (fun _ _ _ _ h => h) (fun _ _ => ⟨rfl, fun h => h⟩) (h.hp.ob id o ho), h.hp.lt, h.hp.hlt, h.hp.inj, h.hp.blt, h.hp.flt,
   fun id o c ho hc => h.hp.rin id o c ho (hb hc), fun id id' o o' c ho ho' hc hc' => h.hp.rinj id id' o o' c ho ho' (hb hc) (hb hc')⟩, h.own,
  ⟨h.same.os, h.same.tape, h.same.output, h.same.size, h.same.block⟩, h.fri, h.fro, h.size, h.fix, h.defers, h.hold, h.keep' m, fun id o c ho hc => h.rown id o c ho (hb hc)⟩
def Loc.at (β : Loc) (id : Nat) (x : Option (Nat × Nat)) : Loc := fun j => if j = id then some x else β j
theorem heap_alloc_lt (w : World) (o : Obj) {b : Nat} (h : b < w.heap.size) : (w.alloc o).heap[b]? = w.heap[b]? := by
 show (w.heap.push o)[b]? = _; rw [Array.getElem?_push, if_neg (by omega)]
theorem heap_alloc_new (w : World) (o : Obj) : (w.alloc o).heap[w.heap.size]? = some o := by
 show (w.heap.push o)[w.heap.size]? = _; rw [Array.getElem?_push, if_pos rfl]
theorem Same.alloc (h : Same w0 own0 w) (o : Obj) : Same w0 own0 (w.alloc o) :=
 ⟨h.os, h.tape, h.output, by simp; have := h.size; omega, fun b hb hn => by rw [heap_alloc_lt w o (by have := h.size; omega)]; exact h.block b hb hn⟩
theorem HpR.none_next (h : HpR w Φ β s) : β s.next = none := by
 cases e : β s.next with
 | none => rfl
 | some x => exact absurd (h.lt _ _ e) (by omega)
theorem HpR.look_next (h : HpR w Φ β s) : look s.heap s.next = none := by
 cases e : look s.heap s.next with
 | none => rfl
 | some x => exact absurd (h.hlt _ _ e) (by omega)
theorem mono_alloc (h : HpR w Φ β s) (o : Obj) (so : SObj) (x : Option (Nat × Nat)) : Mono w Φ β s.heap (w.alloc o) Φ (β.at s.next x) (s.new so).heap := by
 refine ⟨fun b hb => heap_alloc_lt w o (h.flt b hb), fun _ h => h, ?_, ?_, ?_⟩
 · intro id y hy
   have : id ≠ s.next := fun e => by subst e; rw [h.none_next] at hy; cases hy
   simp [Loc.at, this, hy]
 · intro id y hy r hr
   have : s.next ≠ id := fun e => by subst e; rw [h.none_next] at hy; cases hy
   simpa [St.new, look_cons, this] using hr
 · intro id b p r hb hr
   have := h.blt _ _ _ hb
   unfold blockSize; rw [heap_alloc_lt w o this]
theorem Rel.new (h : Rel w0 Φ0 own0 N w Φ β s a) (o : Obj) (so : SObj) (p : Nat) (hrow : ∀ c, ¬ RowB (w.alloc o) (β.at s.next (some (w.heap.size, p))) s.next so c)
  (ho : ObR (w.alloc o) Φ (β.at s.next (some (w.heap.size, p))) (s.new so).heap s.next so) :
  Rel w0 Φ0 own0 N (w.alloc o) Φ (β.at s.next (some (w.heap.size, p))) (s.new so) a := by
 have m := mono_alloc h.hp o so (some (w.heap.size, p))
 have hat : ∀ id, id ≠ s.next → (β.at s.next (some (w.heap.size, p))) id = β id := fun id e => by simp [Loc.at, e]
 have hnew : (β.at s.next (some (w.heap.size, p))) s.next = some (some (w.heap.size, p)) := by simp [Loc.at]
 have hlk : ∀ id ob, look (s.new so).heap id = some ob → (id = s.next ∧ ob = so) ∨ (id ≠ s.next ∧ look s.heap id = some ob) := by
  intro id ob hl
  simp only [St.new, look_cons] at hl
  split at hl
  · rename_i e; exact .inl ⟨e.symm, by cases hl; rfl⟩
  · rename_i e; exact .inr ⟨fun e' => e e'.symm, hl⟩
 have hrb : ∀ id ob c, id ≠ s.next → RowB (w.alloc o) (β.at s.next (some (w.heap.size, p))) id ob c → RowB w β id ob c := fun id ob c hne hc =>
  RowB_of (w := w) (hat id hne) (fun b q hb => heap_alloc_lt w o (h.hp.blt _ _ _ hb)) hc
 have hrl : ∀ id ob c, look (s.new so).heap id = some ob → RowB (w.alloc o) (β.at s.next (some (w.heap.size, p))) id ob c → id ≠ s.next ∧ look s.heap id = some ob ∧ RowB w β id ob c := by
  intro id ob c hl hc
  rcases hlk id ob hl with ⟨rfl, rfl⟩ | ⟨hne, hl⟩
  · exact absurd hc (hrow c)
  · exact ⟨hne, hl, hrb id ob c hne hc⟩
 refine ⟨fun t v hv => SVR_mono m _ _ (h.env t v hv), ⟨?_, ?_, ?_, ?_, ?_, ?_, ?_, ?_⟩, ?_, h.same.alloc o, h.fri, h.fro, h.size, h.fix, h.defers, fun id x hx => ⟨(h.hold id x hx).1, by rw [hat id (fun e => by have := h.hp.lt id x (h.hold id x hx).2; omega)]; exact (h.hold id x hx).2⟩, h.keep' m, ?_⟩
 · intro id ob hl
   rcases hlk id ob hl with ⟨rfl, rfl⟩ | ⟨hne, hl⟩
   · exact ho
   · exact ObR_mono m (fun b q hb => heap_alloc_lt w o (h.hp.blt _ _ _ hb)) (fun _ _ _ _ h => h) (fun c hc => ⟨heap_alloc_lt w o (h.hp.rin id ob c hl hc).2.1, fun h => h⟩) (h.hp.ob id ob hl)
 · intro id x hx
   by_cases e : id = s.next
   · subst e; simp [St.new]
   · rw [hat id e] at hx; have := h.hp.lt id x hx; simp [St.new]; omega
 · intro id ob hl
   rcases hlk id ob hl with ⟨rfl, rfl⟩ | ⟨hne, hl⟩
   · simp [St.new]
   · have := h.hp.hlt id ob hl; simp [St.new]; omega
 · intro id id' ob ob' b q q' hl hl' ho1 ho2 hb hb'
   rcases hlk id ob hl with ⟨rfl, rfl⟩ | ⟨hne, hl⟩ <;> rcases hlk id' ob' hl' with ⟨rfl, rfl⟩ | ⟨hne', hl'⟩
   · rfl
   · rw [hnew] at hb; cases hb
     rw [hat id' hne'] at hb'; exact absurd (h.hp.blt _ _ _ hb') (by omega)
   · rw [hnew] at hb'; cases hb'
     rw [hat id hne] at hb; exact absurd (h.hp.blt _ _ _ hb) (by omega)
   · rw [hat id hne] at hb; rw [hat id' hne'] at hb'; exact h.hp.inj id id' ob ob' b q q' hl hl' ho1 ho2 hb hb'
 · intro id b q hb
   by_cases e : id = s.next
   · subst e; rw [hnew] at hb; cases hb; simp
   · rw [hat id e] at hb; have := h.hp.blt id b q hb; simp; omega
 · intro b hb; have := h.hp.flt b hb; simp; omega
 · intro id ob c hl hc
   obtain ⟨hne, hl, hc⟩ := hrl id ob c hl hc
   obtain ⟨g1, g2, g3⟩ := h.hp.rin id ob c hl hc
   refine ⟨g1, by simp; omega, fun id' ob' q hl' ho' hb => ?_⟩
   rcases hlk id' ob' hl' with ⟨rfl, rfl⟩ | ⟨hne', hl'⟩
   · rw [hnew] at hb; cases hb; omega
   · rw [hat id' hne'] at hb; exact g3 id' ob' q hl' ho' hb
 · intro id id' ob ob' c hl hl' hc hc'
   obtain ⟨_, hl, hc⟩ := hrl id ob c hl hc
   obtain ⟨_, hl', hc'⟩ := hrl id' ob' c hl' hc'
   exact h.hp.rinj id id' ob ob' c hl hl' hc hc'
 · intro id ob b q hl ho1 hb
   rcases hlk id ob hl with ⟨rfl, rfl⟩ | ⟨hne, hl⟩
   · rw [hnew] at hb; cases hb; exact .inr (.inl h.same.size)
   · rw [hat id hne] at hb; exact h.own id ob b q hl ho1 hb
 · intro id ob c hl hc
   obtain ⟨_, hl, hc⟩ := hrl id ob c hl hc
   exact h.rown id ob c hl hc
theorem Rel.mine (h : Rel w0 Φ0 own0 N w Φ β s a) {id b p : Nat} {o : SObj} (hh : s.held id = false) (hl : look s.heap id = some o) (ho : o.owned = true) (hb : β id = some (some (b, p))) : own0 b ∨ w0.heap.size ≤ b := by
 rcases h.own id o b p hl ho hb with h2 | h2 | h2
 · exact .inl h2
 · exact .inr h2
 · obtain ⟨q, h2⟩ := h2; rw [(h.hold _ _ h2).1] at hh; cases hh
theorem Rel.turn (h : Rel w0 Φ0 own0 N w Φ β s a) {id : Nat} {o o' : SObj} (hnr : o.isRows = false) (hnr' : o'.isRows = false) (hl : look s.heap id = some o) (how : o.owned = true ∨ o'.owned = false) (hh : s.held id = false) (w' : World) (Φ' : Nat → Prop)
  (hs : Same w0 own0 w') (hsz : w'.heap.size = w.heap.size)
  (hΦ : ∀ b, Φ b → Φ' b) (hΦ' : ∀ b, Φ' b → Φ b ∨ (o.owned = true ∧ o'.owned = false ∧ ∃ p, β id = some (some (b, p))))
  (hbk : ∀ b, b < w.heap.size → (o.owned = true → ∀ p, β id ≠ some (some (b, p))) → w'.heap[b]? = w.heap[b]?)
  (hΦb : ∀ b, Φ b → w'.heap[b]? = w.heap[b]?)
  (hbs : ∀ b, b < w.heap.size → blockSize w' b = blockSize w b)
  (hrow : rowOf (some o') = rowOf (some o) ∨ rowOf (some o') = none)
  (hob : ObR w' Φ' β (s.put id o').heap id o') : Rel w0 Φ0 own0 N w' Φ' β (s.put id o') a := by
 have hlk : ∀ j ob, look (s.put id o').heap j = some ob → (j = id ∧ ob = o') ∨ (j ≠ id ∧ look s.heap j = some ob) := by
  intro j ob hj
  simp only [St.put, look_cons] at hj
  split at hj
  · rename_i e; exact .inl ⟨e.symm, by cases hj; rfl⟩
  · rename_i e; exact .inr ⟨fun e' => e e'.symm, hj⟩
 have m : Mono w Φ β s.heap w' Φ' β (s.put id o').heap := by
  refine ⟨hΦb, hΦ, fun _ _ h => h, ?_, ?_⟩
  · intro j x hx r hr
    simp only [St.put, look_cons] at hr
    split at hr
    · rename_i e; subst e; rw [hl]
      rcases hrow with e | e
      · rw [← e]; exact hr
      · rw [e] at hr; cases hr
    · exact hr
  · intro j b p r hb hr
    rw [hbs b (h.hp.blt _ _ _ hb)]
 have hrc : ∀ j ob c, look s.heap j = some ob → RowB w β j ob c → w'.heap[c]? = w.heap[c]? ∧ (¬ Φ c → ¬ Φ' c) := by
  intro j ob c hj hc
  obtain ⟨g1, g2, g3⟩ := h.hp.rin j ob c hj hc
  refine ⟨hbk c g2 (fun h1 p => g3 id o p hl h1), fun hn hn' => ?_⟩
  rcases hΦ' c hn' with k | ⟨k1, _, p, k2⟩
  · exact hn k
  · exact g3 id o p hl k1 k2
 have hrl : ∀ j ob c, look (s.put id o').heap j = some ob → RowB w' β j ob c → j ≠ id ∧ look s.heap j = some ob ∧ RowB w β j ob c := by
  intro j ob c hj hc
  rcases hlk j ob hj with ⟨rfl, rfl⟩ | ⟨hne, hj⟩
  · exact absurd hc (RowB_none hnr')
  · cases hir : ob.isRows with
    | false => exact absurd hc (RowB_none hir)
    | true =>
      have hown : ob.owned = true := by cases ob <;> first | rfl | cases hir
      exact ⟨hne, hj, RowB_of (w := w) rfl (fun b p hb => hbk b (h.hp.blt _ _ _ hb) (fun h1 q hq => hne (h.hp.inj j id ob o b p q hj hl hown h1 hb hq))) hc⟩
 refine ⟨fun t v hv => SVR_mono m _ _ (h.env t v hv), ⟨?_, h.hp.lt, ?_, ?_, ?_, ?_, ?_, ?_⟩, ?_, hs, fun b hb => hΦ b (h.fri b hb), ?_, h.size, h.fix, h.defers, h.hold, h.keep' m, ?_⟩
 · intro j ob hj
   rcases hlk j ob hj with ⟨rfl, rfl⟩ | ⟨hne, hj⟩
   · exact hob
   ·
    have hother : o.owned = true → ob.owned = true → ∀ b p q, β j = some (some (b, p)) → β id ≠ some (some (b, q)) := by
     intro h1 h2 b p q hb hq
     exact hne (h.hp.inj j id ob o b p q hj hl h2 h1 hb hq)
    cases hown : ob.owned with
    | true =>
      refine ObR_mono m ?_ ?_ (fun c hc => hrc j ob c hj hc) (h.hp.ob j ob hj)
      · intro b p hb
        exact hbk b (h.hp.blt _ _ _ hb) (fun h1 q hq => hother h1 hown b p q hb hq)
      · intro _ b p hb hn hn'
        rcases hΦ' b hn' with h1 | ⟨h1, _, q, hq⟩
        · exact hn h1
        · exact hother h1 hown b p q hb hq
    | false =>
      cases ob with
      | dead => trivial
      | box cs => cases hown
      | cells cs => cases hown
      | arr e l => cases hown
      | map _ _ _ _ => cases hown
      | rows _ _ _ => cases hown
      | mrows _ _ _ _ => cases hown
      | zip _ _ _ _ => cases hown
      | frz e l =>
        rcases h.hp.ob j _ hj with ⟨h1, h2⟩ | ⟨b, p, h1, h2, h4⟩
        · exact .inl ⟨h1, h2⟩
        · exact .inr ⟨b, p, h1, hΦ b h2, RowAt_mono m (hΦb b h2) h4⟩
 · intro j ob hj
   rcases hlk j ob hj with ⟨rfl, rfl⟩ | ⟨hne, hj⟩
   · exact h.hp.hlt _ _ hl
   · exact h.hp.hlt _ _ hj
 · intro j j' ob ob' b q q' hj hj' ho1 ho2 hb hb'
   have fix : ∀ j ob, look (s.put id o').heap j = some ob → ob.owned = true → ∃ ob2, look s.heap j = some ob2 ∧ ob2.owned = true := by
    intro j ob hj ho
    rcases hlk j ob hj with ⟨rfl, rfl⟩ | ⟨hne, hj⟩
    · rcases how with h1 | h1
      · exact ⟨o, hl, h1⟩
      · rw [h1] at ho; cases ho
    · exact ⟨ob, hj, ho⟩
   obtain ⟨x, hx1, hx2⟩ := fix j ob hj ho1
   obtain ⟨y, hy1, hy2⟩ := fix j' ob' hj' ho2
   exact h.hp.inj j j' x y b q q' hx1 hy1 hx2 hy2 hb hb'
 · intro j b q hb; rw [hsz]; exact h.hp.blt j b q hb
 · intro b hb
   rw [hsz]
   rcases hΦ' b hb with h1 | ⟨_, _, p, hp⟩
   · exact h.hp.flt b h1
   · exact h.hp.blt _ _ _ hp
 · intro j ob c hj hc
   obtain ⟨_, hj, hc⟩ := hrl j ob c hj hc
   obtain ⟨g1, g2, g3⟩ := h.hp.rin j ob c hj hc
   refine ⟨(hrc j ob c hj hc).2 g1, by rw [hsz]; exact g2, fun j' ob' p hj' ho' hb => ?_⟩
   rcases hlk j' ob' hj' with ⟨rfl, rfl⟩ | ⟨_, hj'⟩
   · rcases how with k | k
     · exact g3 _ o p hl k hb
     · rw [k] at ho'; cases ho'
   · exact g3 j' ob' p hj' ho' hb
 · intro j j' ob ob' c hj hj' hc hc'
   obtain ⟨_, hj, hc⟩ := hrl j ob c hj hc
   obtain ⟨_, hj', hc'⟩ := hrl j' ob' c hj' hc'
   exact h.hp.rinj j j' ob ob' c hj hj' hc hc'
 · intro j ob b q hj ho hb
   rcases hlk j ob hj with ⟨rfl, rfl⟩ | ⟨hne, hj⟩
   · rcases how with h1 | h1
     · exact h.own _ o b q hl h1 hb
     · rw [h1] at ho; cases ho
   · exact h.own j ob b q hj ho hb
 · intro b hb
   rcases hΦ' b hb with h1 | ⟨h1, _, p, hp⟩
   · exact h.fro b h1
   · rcases h.own id o b p hl h1 hp with h2 | h2 | h2
     · exact .inr (.inl h2)
     · exact .inr (.inr h2)
     · obtain ⟨q, h2⟩ := h2; rw [(h.hold _ _ h2).1] at hh; cases hh
 · intro j ob c hj hc
   obtain ⟨_, hj, hc⟩ := hrl j ob c hj hc
   exact h.rown j ob c hj hc
end
end Go.Bm
