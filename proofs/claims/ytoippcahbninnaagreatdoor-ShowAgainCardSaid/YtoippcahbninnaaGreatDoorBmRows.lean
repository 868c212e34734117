/-
  OUR OWN: the interpreter's step is sound: rows of rows: one is taken out, one is put in; the same of a map of rows.
-/
import Derived.Test.YtoippcahbninnaaGreatDoorBmDel
namespace Go.Bm
set_option linter.unusedVariables false
set_option linter.unusedSimpArgs false

section
variable {P : Program} {R : Type} {w0 : World} {Φ0 own0 : Nat → Prop} {N : Frm} {w : World} {Φ : Nat → Prop} {β : Loc} {s : St} {a : Act} {hp : List (Nat × SObj)}
variable {cx : Cx} {o : Oper} {next : Act → World → Prop} {Q : Exit → Act → World → Prop} {k : St → Option R} {r : R}

/-- Rows are turned: what they own they owned, or it is free. -/
theorem Rel.rput (hr : Rel w0 Φ0 own0 N w Φ β s a) {id b q : Nat} {o o' : SObj} (hir : o.isRows = true) (hir' : o'.isRows = true) (hl : look s.heap id = some o) (hb : β id = some (some (b, q))) (hrow : rowOf (some o') = rowOf (some o)) {w' : World}
    (hs : Same w0 own0 w') (hsz : w'.heap.size = w.heap.size) (hot : ∀ b', b' ≠ b → w'.heap[b']? = w.heap[b']?) (hbs : blockSize w' b = blockSize w b) (hnΦ : ¬ Φ b)
    (hgrow : ∀ c, RowB w' β id o' c → RowB w β id o c ∨ (¬ Φ c ∧ c < w.heap.size ∧ (∀ j ob p, look s.heap j = some ob → ob.owned = true → β j ≠ some (some (c, p))) ∧ (∀ j ob, look s.heap j = some ob → ¬ RowB w β j ob c) ∧ (own0 c ∨ w0.heap.size ≤ c)))
    (hob : ObR w' Φ β (s.put id o').heap id o') : Rel w0 Φ0 own0 N w' Φ β (s.put id o') a ∧ Mono w Φ β s.heap w' Φ β (s.put id o').heap := by
  have hown : o.owned = true := by cases o <;> first | rfl | cases hir
  have hown' : o'.owned = true := by cases o' <;> first | rfl | cases hir'
  have hlk : ∀ j ob, look (s.put id o').heap j = some ob → (j = id ∧ ob = o') ∨ (j ≠ id ∧ look s.heap j = some ob) := by
    intro j ob hj
    simp only [St.put, look_cons] at hj
    split at hj
    · rename_i e; exact .inl ⟨e.symm, by cases hj; rfl⟩
    · rename_i e; exact .inr ⟨fun e' => e e'.symm, hj⟩
  have hfrz : ∀ c, Φ c → w'.heap[c]? = w.heap[c]? := fun c hc => hot c (fun e => hnΦ (e ▸ hc))
  have m : Mono w Φ β s.heap w' Φ β (s.put id o').heap := by
    refine ⟨hfrz, fun _ h => h, fun _ _ h => h, ?_, ?_⟩
    · intro j x hx r hr
      simp only [St.put, look_cons] at hr
      split at hr
      · rename_i e; subst e; rw [hl, ← hrow]; exact hr
      · exact hr
    · intro j c o r hj hr
      by_cases e : c = b
      · rw [e]; exact hbs
      · unfold blockSize; rw [hot c e]
  have apart : ∀ j ob c p, j ≠ id → look s.heap j = some ob → ob.owned = true → β j = some (some (c, p)) → w'.heap[c]? = w.heap[c]? := fun j ob c p hne hj ho hc =>
    hot c (fun e => by subst e; exact hne (hr.hp.inj j id ob o _ p q hj hl ho hown hc hb))
  have apartR : ∀ j ob c, look s.heap j = some ob → RowB w β j ob c → w'.heap[c]? = w.heap[c]? := fun j ob c hj hc =>
    hot c (fun e => by subst e; exact (hr.hp.rin j ob _ hj hc).2.2 id o q hl hown hb)
  have hrl : ∀ j ob c, look (s.put id o').heap j = some ob → RowB w' β j ob c → (j = id ∧ RowB w' β id o' c) ∨ (j ≠ id ∧ look s.heap j = some ob ∧ RowB w β j ob c) := by
    intro j ob c hj hc
    rcases hlk j ob hj with ⟨e1, e2⟩ | ⟨hne, hj⟩
    · subst e1; subst e2; exact .inl ⟨rfl, hc⟩
    · cases hirj : ob.isRows with
      | false => exact absurd hc (RowB_none hirj)
      | true =>
        have ho : ob.owned = true := by cases ob <;> first | rfl | cases hirj
        exact .inr ⟨hne, hj, RowB_of (w := w) rfl (fun c p hc => apart j ob c p hne hj ho hc) hc⟩
  have main : ∀ j ob c p, look (s.put id o').heap j = some ob → ob.owned = true → β j = some (some (c, p)) → ∃ ob2, look s.heap j = some ob2 ∧ ob2.owned = true := by
    intro j ob c p hj ho hc
    rcases hlk j ob hj with ⟨e1, _⟩ | ⟨_, hj⟩
    · rw [e1]; exact ⟨o, hl, hown⟩
    · exact ⟨ob, hj, ho⟩
  refine ⟨⟨fun t v hv => SVR_mono m _ _ (hr.env t v hv), ⟨?_, hr.hp.lt, ?_, ?_, fun j c p h => by rw [hsz]; exact hr.hp.blt j c p h, fun c hc => by rw [hsz]; exact hr.hp.flt c hc, ?_, ?_⟩, ?_, hs, hr.fri, hr.fro, hr.size, hr.fix, hr.defers, hr.hold, hr.keep' m, ?_⟩, m⟩
  · intro j ob hj
    rcases hlk j ob hj with ⟨e1, e2⟩ | ⟨hne, hj⟩
    · rw [e1, e2]; exact hob
    · cases ho : ob.owned with
      | true => exact ObR_mono m (fun c p hc => apart j ob c p hne hj ho hc) (fun _ _ _ _ h => h) (fun c hc => ⟨apartR j ob c hj hc, fun h => h⟩) (hr.hp.ob j ob hj)
      | false =>
        cases ob with
        | dead => trivial
        | frz e l =>
          rcases hr.hp.ob j _ hj with ⟨h1, h2⟩ | ⟨c, p, h1, h2, h4⟩
          · exact .inl ⟨h1, h2⟩
          · exact .inr ⟨c, p, h1, h2, RowAt_mono m (hfrz c h2) h4⟩
        | _ => cases ho
  · intro j ob hj
    rcases hlk j ob hj with ⟨e1, _⟩ | ⟨_, hj⟩
    · rw [e1]; exact hr.hp.hlt _ _ hl
    · exact hr.hp.hlt _ _ hj
  · intro j j' ob ob' c p p' hj hj' ho ho' hc hc'
    obtain ⟨x, hx1, hx2⟩ := main j ob c p hj ho hc
    obtain ⟨y, hy1, hy2⟩ := main j' ob' c p' hj' ho' hc'
    exact hr.hp.inj j j' x y c p p' hx1 hy1 hx2 hy2 hc hc'
  · intro j ob c hj hc
    rcases hrl j ob c hj hc with ⟨e1, hc⟩ | ⟨hne, hj2, hc⟩
    · rcases hgrow c hc with g | ⟨g1, g2, g3, _⟩
      · obtain ⟨g1, g2, g3⟩ := hr.hp.rin id o c hl g
        refine ⟨g1, by rw [hsz]; exact g2, fun j' ob' p hj' ho' h => ?_⟩
        obtain ⟨x, hx1, hx2⟩ := main j' ob' c p hj' ho' h
        exact g3 j' x p hx1 hx2 h
      · refine ⟨g1, by rw [hsz]; exact g2, fun j' ob' p hj' ho' h => ?_⟩
        obtain ⟨x, hx1, hx2⟩ := main j' ob' c p hj' ho' h
        exact g3 j' x p hx1 hx2 h
    · obtain ⟨g1, g2, g3⟩ := hr.hp.rin j ob c hj2 hc
      refine ⟨g1, by rw [hsz]; exact g2, fun j' ob' p hj' ho' h => ?_⟩
      obtain ⟨x, hx1, hx2⟩ := main j' ob' c p hj' ho' h
      exact g3 j' x p hx1 hx2 h
  · intro j j' ob ob' c hj hj' hc hc'
    rcases hrl j ob c hj hc with ⟨e1, hc⟩ | ⟨hne, hj2, hc⟩ <;> rcases hrl j' ob' c hj' hc' with ⟨e1', hc'⟩ | ⟨hne', hj2', hc'⟩
    · rw [e1, e1']
    · rcases hgrow c hc with g | ⟨_, _, _, g4, _⟩
      · rw [e1]; exact hr.hp.rinj id j' o ob' c hl hj2' g hc'
      · exact absurd hc' (g4 j' ob' hj2')
    · rcases hgrow c hc' with g | ⟨_, _, _, g4, _⟩
      · rw [e1']; exact hr.hp.rinj j id ob o c hj2 hl hc g
      · exact absurd hc (g4 j ob hj2)
    · exact hr.hp.rinj j j' ob ob' c hj2 hj2' hc hc'
  · intro j ob c p hj ho hc
    obtain ⟨x, hx1, hx2⟩ := main j ob c p hj ho hc
    exact hr.own j x c p hx1 hx2 hc
  · intro j ob c hj hc
    rcases hrl j ob c hj hc with ⟨e1, hc⟩ | ⟨hne, hj2, hc⟩
    · rcases hgrow c hc with g | ⟨_, _, _, _, g5⟩
      · exact hr.rown id o c hl g
      · exact g5
    · exact hr.rown j ob c hj2 hc

/-- A row that has been taken out is a row of its own. -/
theorem Rel.taken (hr : Rel w0 Φ0 own0 N w Φ β s a) {e : CT} {v : Value} {row : List e.denote} (hv : RowV w Φ e v row) (hpos : 0 < e.size)
    (hc : ∀ c, PtB v c → (∀ j ob p, look s.heap j = some ob → ob.owned = true → β j ≠ some (some (c, p))) ∧ c < w.heap.size ∧ (own0 c ∨ w0.heap.size ≤ c) ∧ ∀ j ob, look s.heap j = some ob → ¬ RowB w β j ob c) :
    ∃ β', Rel w0 Φ0 own0 N w Φ β' (s.new (.arr e row)) a ∧ SVR w Φ β' (s.new (.arr e row)).heap (.one (.sl s.next none)) v := by
  rcases hv with ⟨⟨z, h1⟩, h2⟩ | ⟨c, o, cap, h1, h2, h3, h4, h5, h6, h7, h8⟩
  · subst h2
    refine ⟨β.at s.next none, hr.adopt (.arr e []) rfl none (fun _ _ h => by cases h) (.inl ⟨by simp [Loc.at], rfl⟩), none, by simp [Loc.at], ⟨z, 0, 0, h1⟩, fun sz n hrw => ?_⟩
    simp only [St.new, look_cons, if_true, rowOf] at hrw
    cases hrw
    exact ⟨⟨z, h1⟩, rfl, rfl⟩
  · refine ⟨β.at s.next (some (c, o)), hr.adopt (.arr e row) rfl (some (c, o)) (fun b p h => ?_) (.inr ⟨c, o, by simp [Loc.at], h6, h7, h8⟩), some (c, o), by simp [Loc.at], ⟨_, _, _, h1⟩, fun sz n hrw => ?_⟩
    · simp only [Option.some.injEq, Prod.mk.injEq] at h
      obtain ⟨rfl, rfl⟩ := h
      exact hc _ ⟨_, _, cap, h1, h2⟩
    · simp only [St.new, look_cons, if_true, rowOf] at hrw
      cases hrw
      exact ⟨o, cap, h1, h3, .inl (by simp), by simp, .inl h4, fun _ => ⟨rfl, h4, h5⟩⟩

/-- The blocks of rows of which one is out are those of all but that one. -/
theorem row_out {id : Nat} {o o' : SObj} {hs : List Value} {i : Nat} {v : Value} (h : HdR w β id o hs none) (hd : ∀ hs' g', HdR w β id o' hs' g' → HdR w β id o hs' none ∧ hs' = hs ∧ g' = some i) (hv : hs[i]? = some v)
    (hdis : ∀ (i j : Nat) (v v' : Value) (c : Nat), hs[i]? = some v → hs[j]? = some v' → PtB v c → PtB v' c → i = j) {c : Nat} (hc : RowB w β id o' c) : RowB w β id o c ∧ ¬ PtB v c := by
  obtain ⟨hs', g', h1, j, v', h2, h3, h4⟩ := hc
  obtain ⟨k1, rfl, rfl⟩ := hd hs' g' h1
  refine ⟨⟨_, none, k1, j, v', h2, by simp, h4⟩, fun h5 => h3 ?_⟩
  rw [hdis i j v v' c hv h2 h5 h4]

/-- A row is read out of its rows. -/
theorem step_take (hcx : CxOk P cx) (hr : Rel w0 Φ0 own0 N w Φ β s a) (hN : ∀ d, o.dst = some d → N.ok d) (hk : ∀ s' a' w' Φ' β', Rel w0 Φ0 own0 N w' Φ' β' s' a' → k s' = some r → next a' w')
    {t : TypeId} {x : Operand} (ho : o.op = .load t x) {id i n : Nat} {e : CT} {l : List (List e.denote)} {row : List e.denote} (htd : cx.tab t = some (.slice e n)) (hx : evalO s.env x = some (.one (.eptr id i 0))) (hl : look s.heap id = some (.rows e l none))
    (hn : nth l i = some row) (h : takeK s id (.rows e l (some i)) e row (fun r s' => k (s'.set o.dst r)) = some r) : o.wp P a w next Q := by
  unfold takeK at h
  obtain ⟨hc, h⟩ := cond_none h
  simp only [Bool.and_eq_true, Bool.not_eq_true'] at hc
  obtain ⟨hh, hpos⟩ := hc
  rw [Nat.blt_eq] at hpos
  obtain ⟨b, q, hs, h1, h2, h3, h4, h5⟩ := hr.hp.ob id _ hl
  rw [nth_getElem?] at hn
  have hi := (List.getElem?_eq_some_iff.1 hn).1
  have hlt : i < hs.length := by have := h5.len; omega
  obtain ⟨v, hv⟩ : ∃ v, hs[i]? = some v := ⟨_, List.getElem?_eq_getElem hlt⟩
  have hdr : HdR w β id (.rows e l none) hs none := ⟨rfl, h5.len, b, q, h1, h4⟩
  have hd : ∀ hs' g', HdR w β id (.rows e l (some i)) hs' g' → HdR w β id (.rows e l none) hs' none ∧ hs' = hs ∧ g' = some i := by
    rintro hs' g' ⟨k1, k2, b', q', k3, k4⟩
    rw [h1] at k3; cases k3
    have := cellsAt_fun k4 h4 (by rw [k2, h5.len])
    subst this
    exact ⟨hdr, rfl, k1⟩
  have hdis : ∀ (i j : Nat) (v v' : Value) (c : Nat), hs[i]? = some v → hs[j]? = some v' → PtB v c → PtB v' c → i = j := fun i j v v' c g1 g2 g3 g4 => h5.dis i j v v' c g1 g2 (by simp) (by simp) g3 g4
  obtain ⟨hr1, m1⟩ := hr.rput (o' := .rows e l (some i)) rfl rfl hl h1 rfl hr.same rfl (fun _ _ => rfl) rfl h2 (fun c hc => .inl (row_out hdr hd hv hdis hc).1)
    ⟨b, q, hs, h1, h2, h3, h4, h5.len, fun j v' r' g1 g2 _ => h5.row j v' r' g1 g2 (by simp), fun i j v v' c g1 g2 _ _ g3 g4 => hdis i j v v' c g1 g2 g3 g4⟩
  have hrv := h5.row i v row hv hn (by simp)
  have hRB : ∀ c, PtB v c → RowB w β id (.rows e l none) c := fun c hc => ⟨hs, none, hdr, i, v, hv, by simp, hc⟩
  obtain ⟨β', hr2, hsv⟩ := hr1.taken hrv hpos (fun c hc => by
    obtain ⟨g1, g2, g3⟩ := hr.hp.rin id _ c hl (hRB c hc)
    refine ⟨fun j ob p hj hown hb => ?_, g2, hr.rown id _ c hl (hRB c hc), fun j ob hj hcb => ?_⟩
    · simp only [St.put, look_cons] at hj
      split at hj
      · rename_i e'; subst e'; exact g3 _ _ p hl rfl hb
      · exact g3 j ob p hj hown hb
    · simp only [St.put, look_cons] at hj
      split at hj
      · rename_i e'; subst e'; cases hj; exact (row_out hdr hd hv hdis hcb).2 hc
      · rename_i hne; exact hne (hr.hp.rinj id j _ ob c hl hj (hRB c hc) hcb))
  -- the read
  obtain ⟨loc, g1, _, g3⟩ := hr.eval hx
  obtain ⟨b2, q2, e1, e2⟩ := g3 1 l.length (by rw [hl]; rfl)
  subst e1
  rw [h1] at g1; cases g1
  have hcell := cellsAt_get hs q b h4 i v hv
  have hok := hcx.tab t _ htd
  have hrun := run_loadVar (P := P) (w := w) hok (b := b) (o := q + i) (vs := [v]) ⟨hcell, trivial⟩ rfl
  refine upon_ok (v := v) (w' := w) ?_ (hk _ _ _ _ _ (hr2.set hsv hN) h)
  have e2' : a.eval x = .pointer (some ⟨b, q + i, none⟩) := by rw [e2]; simp
  have e3 : valOf (TD.slice e n).agg [v] = v := rfl
  rw [e3] at hrun
  simp [execOp, ho, Instr.loadAt, e2', Instr.sureAddr, hrun]

theorem rowK_spec {e : CT} {v : SVal} {kk : Nat → List e.denote → Option R} (h : rowK s e v kk = some r) : ∃ id row, v = .one (.sl id none) ∧ look s.heap id = some (.arr e row) ∧ s.held id = false ∧ 0 < e.size ∧ kk id row = some r := by
  unfold rowK at h
  split at h
  case h_2 => cases h
  rename_i id
  split at h
  case h_2 => cases h
  rename_i e' row hl
  split at h
  case isFalse => cases h
  rename_i he
  subst he
  obtain ⟨hc, h⟩ := cond_none h
  simp only [Bool.and_eq_true, Bool.not_eq_true'] at hc
  exact ⟨id, row, rfl, hl, hc.1, by rw [← Nat.blt_eq]; exact hc.2, h⟩

/-- A row of one's own, as its header says. -/
theorem own_row (hr : Rel w0 Φ0 own0 N w Φ β s a) {id : Nat} {e : CT} {row : List e.denote} {v : Value} (hl : look s.heap id = some (.arr e row)) (hv : LfR w Φ β s.heap (.sl id none) v) (hpos : 0 < e.size) :
    RowV w Φ e v row ∧ ∀ c, PtB v c → ∃ p, β id = some (some (c, p)) := by
  obtain ⟨loc, h1, _, h2⟩ := hv
  have h3 := h2 e.size row.length (by rw [hl]; rfl)
  cases loc with
  | none =>
    obtain ⟨⟨z, k1⟩, k2, _⟩ := h3
    exact ⟨.inl ⟨⟨z, k1⟩, List.eq_nil_of_length_eq_zero k2⟩, fun c ⟨o, n, cap, k3, k4⟩ => by rw [k1] at k3; cases k3; omega⟩
  | some bo =>
    obtain ⟨b, p⟩ := bo
    obtain ⟨o', cap, k1, k2, k3, k4, k5, k6⟩ := h3
    obtain ⟨k7, k8, _⟩ := k6 rfl
    subst k7
    simp only [Option.getD_none] at k1 k2
    by_cases h0 : cap = 0
    · subst h0
      have h0 : row.length = 0 := by omega
      rw [h0] at k1
      exact ⟨.inl ⟨⟨_, k1⟩, List.eq_nil_of_length_eq_zero h0⟩, fun c ⟨o, n, cap, k3, k4⟩ => by rw [k1] at k3; cases k3; omega⟩
    · rcases hr.hp.ob id _ hl with ⟨g1, _⟩ | ⟨b', p', g1, g2, g3, g4⟩
      · rw [h1] at g1; cases g1
      · rw [h1] at g1; cases g1
        exact ⟨.inr ⟨b, _, cap, k1, by omega, k2, k8, hpos, g2, g3, g4⟩, fun c ⟨o, n, cap, k3, k4⟩ => by rw [k1] at k3; cases k3; exact ⟨_, h1⟩⟩

/-- A row is put in. -/
theorem step_put (hcx : CxOk P cx) (hr : Rel w0 Φ0 own0 N w Φ β s a) (hN : ∀ d, o.dst = some d → N.ok d) (hk : ∀ s' a' w' Φ' β', Rel w0 Φ0 own0 N w' Φ' β' s' a' → k s' = some r → next a' w')
    {t : TypeId} {x y : Operand} (ho : o.op = .store t x y) {id i n : Nat} {e e2 : CT} {l : List (List e.denote)} {g : Option Nat} {u : SVal} (htd : cx.tab t = some (.slice e2 n)) (hx : evalO s.env x = some (.one (.eptr id i 0))) (hy : evalO s.env y = some u) (hl : look s.heap id = some (.rows e l g))
    (h : rowK s e u (fun id' row => bif outB g i && (Nat.blt i l.length && !s.held id) then k (((s.put id' .dead).put id (.rows e (setNth l i row) none)).set o.dst (.one .undef)) else none) = some r) : o.wp P a w next Q := by
  obtain ⟨id', row, hu, hl', hh', hpos, h7⟩ := rowK_spec h
  clear h
  subst hu
  obtain ⟨hc, h⟩ := cond_none h7
  simp only [Bool.and_eq_true, Bool.not_eq_true'] at hc
  obtain ⟨hout, hil, hh⟩ := hc
  rw [Nat.blt_eq] at hil
  have hne : id ≠ id' := fun e' => by subst e'; rw [hl] at hl'; cases hl'
  obtain ⟨b, q, hs, h1, h2, h3, h4, h5⟩ := hr.hp.ob id _ hl
  have hlt : i < hs.length := by have := h5.len; omega
  obtain ⟨v0, hv0⟩ : ∃ v, hs[i]? = some v := ⟨_, List.getElem?_eq_getElem hlt⟩
  have hyv : LfR w Φ β s.heap (.sl id' none) (a.eval y) := hr.eval hy
  obtain ⟨hrv, hpt⟩ := own_row hr hl' hyv hpos
  have hone : (a.eval y).oneCell' = true := LfR_oneCell hyv rfl
  have hcells : (a.eval y).cells.toList = [a.eval y] := by cases hv : a.eval y <;> first | rfl | (rw [hv] at hone; cases hone)
  -- the write
  obtain ⟨loc, g1, _, g3⟩ := hr.eval hx
  obtain ⟨b2, q2, e1, e2'⟩ := g3 1 l.length (by rw [hl]; rfl)
  subst e1
  rw [h1] at g1; cases g1
  have e3 : a.eval x = .pointer (some ⟨b, q + i, none⟩) := by rw [e2']; simp
  have hok := hcx.tab t _ htd
  have hcell := cellsAt_get hs q b h4 i v0 hv0
  obtain ⟨w', r1, r2⟩ := run_storeVar (P := P) (w := w) hok (b := b) (o := q + i) (v := a.eval y) (by rw [← Array.length_toList, hcells]; rfl) (by rw [hcells]; simpa using hone)
    (fun j hj => by
      rw [← Array.length_toList, hcells] at hj
      simp only [List.length_singleton] at hj
      have : j = 0 := by omega
      subst this
      rw [Nat.add_zero, hcell]; rfl) h3
  rw [hcells] at r2
  -- it is given away; then it stands among the rows
  have hr1 := hr.give (ob := .arr e row) rfl hl' rfl hh'
  have hl1 : look (s.put id' .dead).heap id = some (.rows e l g) := by
    simp only [St.put, look_cons]; rw [if_neg (fun e' => hne e'.symm)]; exact hl
  have hgi : g = none ∨ g = some i := by
    cases g with
    | none => exact .inl rfl
    | some j => exact .inr (by rw [Nat.eq_of_beq_eq_true hout])
  have hset : cellsAt w' b q (hs.set i (a.eval y)) := r2.cells h4 _ (by simp) (fun j hj => by
    rw [List.getElem?_set]
    by_cases hji : i = j
    · subst hji; rw [if_pos rfl, if_pos hlt, if_pos (by simp)]; simp
    · rw [if_neg hji, if_neg (by simp; omega)])
  have hget : ∀ j v, (hs.set i (a.eval y))[j]? = some v → (j = i ∧ v = a.eval y) ∨ (j ≠ i ∧ hs[j]? = some v) := by
    intro j v hj
    rw [List.getElem?_set] at hj
    by_cases hji : i = j
    · subst hji; rw [if_pos rfl, if_pos hlt] at hj; exact .inl ⟨rfl, (Option.some.inj hj).symm⟩
    · rw [if_neg hji] at hj; exact .inr ⟨fun e' => hji e'.symm, hj⟩
  have hgj : ∀ j, j ≠ i → g ≠ some j := by
    intro j hj e'
    rcases hgi with g0 | g0
    · rw [g0] at e'; cases e'
    · rw [g0] at e'; cases e'; exact hj rfl
  have hold : ∀ j v c, j ≠ i → hs[j]? = some v → PtB v c → RowB w β id (.rows e l g) c := fun j v c hj hv hc => ⟨hs, g, ⟨rfl, h5.len, b, q, h1, h4⟩, j, v, hv, hgj j hj, hc⟩
  have hnewc : ∀ c, PtB (a.eval y) c → ¬ Φ c ∧ c < w.heap.size ∧ (∀ j ob p, look (s.put id' .dead).heap j = some ob → ob.owned = true → β j ≠ some (some (c, p))) ∧ (∀ j ob, look (s.put id' .dead).heap j = some ob → ¬ RowB w β j ob c) ∧ (own0 c ∨ w0.heap.size ≤ c) := by
    intro c hc
    obtain ⟨p, hp⟩ := hpt c hc
    refine ⟨?_, hr.hp.blt _ _ _ hp, fun j ob p' hj hown hb => ?_, norow hr hl' rfl hp (fun _ _ => rfl), hr.mine hh' hl' rfl hp⟩
    · rcases hr.hp.ob id' _ hl' with ⟨k1, _⟩ | ⟨c', p', k1, k2, _⟩
      · rw [hp] at k1; cases k1
      · rw [hp] at k1; cases k1; exact k2
    · simp only [St.put, look_cons] at hj
      split at hj
      · cases hj; cases hown
      · rename_i hne'; exact hne' (hr.hp.inj id' j _ ob c p p' hl' hj rfl hown hp hb)
  have hot : ∀ c, c ≠ b → w'.heap[c]? = w.heap[c]? := r2.other
  have hnb : ∀ c, PtB (a.eval y) c → c ≠ b := fun c hc e' => by
    subst e'
    exact (hnewc _ hc).2.2.1 id _ q hl1 rfl h1
  have m0 : Mono w Φ β (s.put id' .dead).heap w' Φ β ((s.put id' .dead).put id (.rows e (setNth l i row) none)).heap := by
    refine ⟨fun c hc => hot c (fun e' => h2 (e' ▸ hc)), fun _ h => h, fun _ _ h => h, ?_, ?_⟩
    · intro j x hx r hr
      simp only [St.put, look_cons] at hr ⊢
      split at hr
      · rename_i e'; subst e'
        rw [if_neg (fun e' => hne e'.symm), hl]
        simpa [rowOf, setNth_len] using hr
      · exact hr
    · intro j c o r hj hr
      by_cases e' : c = b
      · subst e'; exact r2.bs
      · unfold blockSize; rw [hot c e']
  obtain ⟨hr2, _⟩ := hr1.rput (o' := .rows e (setNth l i row) none) rfl rfl hl1 h1 (by simp [rowOf, setNth_len]) (r2.same hr.same (hr.mine hh hl rfl h1)) r2.size hot r2.bs h2
    (fun c hc => by
      obtain ⟨hs2, g2, ⟨k1, k2, b3, q3, k3, k4⟩, j, v, k5, k6, k7⟩ := hc
      rw [h1] at k3; cases k3
      have : hs2 = hs.set i (a.eval y) := cellsAt_fun k4 hset (by rw [k2]; simp [setNth_len, h5.len])
      subst this
      rcases hget j v k5 with ⟨e4, e5⟩ | ⟨e4, e5⟩
      · subst e5; exact .inr (hnewc c k7)
      · exact .inl (hold j v c e4 e5 k7))
    ⟨b, q, hs.set i (a.eval y), h1, h2, r2.fz h3, hset, by simp [setNth_len, h5.len], fun j v r' k1 k2 _ => by
      rw [setNth_getElem?] at k2
      rcases hget j v k1 with ⟨e4, e5⟩ | ⟨e4, e5⟩
      · subst e4; subst e5
        rw [if_pos ⟨rfl, hil⟩] at k2
        cases k2
        exact RowV_mono m0 (fun c hc => ⟨hot c (hnb c hc), fun h => h⟩) hrv
      · rw [if_neg (fun e6 => e4 e6.1)] at k2
        refine RowV_mono m0 (fun c hc => ⟨hot c (fun e' => ?_), fun h => h⟩) (h5.row j v r' e5 k2 (hgj j e4))
        subst e'
        exact (hr.hp.rin id _ _ hl (hold j v _ e4 e5 hc)).2.2 id _ q hl rfl h1,
      fun j j' v v' c k1 k2 _ _ k3 k4 => by
        rcases hget j v k1 with ⟨e4, e5⟩ | ⟨e4, e5⟩ <;> rcases hget j' v' k2 with ⟨e4', e5'⟩ | ⟨e4', e5'⟩
        · rw [e4, e4']
        · subst e5
          obtain ⟨p, hp⟩ := hpt c k3
          exact absurd hp ((hr.hp.rin id _ c hl (hold j' v' c e4' e5' k4)).2.2 id' _ p hl' rfl)
        · subst e5'
          obtain ⟨p, hp⟩ := hpt c k4
          exact absurd hp ((hr.hp.rin id _ c hl (hold j v c e4 e5 k3)).2.2 id' _ p hl' rfl)
        · exact h5.dis j j' v v' c e5 e5' (hgj j e4) (hgj j' e4') k3 k4⟩
  refine upon_skip (w' := w') ?_ (hk _ _ _ _ _ (hr2.set (sv := .one .undef) (v := undef) trivial hN) h)
  simp [execOp, ho, Instr.storeAt, e3, Instr.sureAddr, r1]

theorem step_load (hcx : CxOk P cx) (hr : Rel w0 Φ0 own0 N w Φ β s a) (hN : ∀ d, o.dst = some d → N.ok d) (hk : ∀ s' a' w' Φ' β', Rel w0 Φ0 own0 N w' Φ' β' s' a' → k s' = some r → next a' w')
    {t : TypeId} {x : Operand} (ho : o.op = .load t x) (hg : GvR cx.gv w Φ) (h : stepK cx o s k = some r) : o.wp P a w next Q := by
  simp only [stepK, ho] at h
  split at h
  · rename_i u hu
    split at h
    case h_2 => cases h
    rename_i td htd
    exact step_loadK hcx hr hN hk ho htd (gOp_sound hg hu) h
  split at h
  case h_2 => cases h
  rename_i td u htd hx
  rcases loadS_cases h with h | ⟨id, i, e, l, n, row, e1, e2, e3, e4, e5⟩
  · exact step_loadK hcx hr hN hk ho htd (hr.eval hx) h
  · subst e1; subst e3
    exact step_take hcx hr hN hk ho htd hx e2 e4 e5

theorem step_store (hcx : CxOk P cx) (hr : Rel w0 Φ0 own0 N w Φ β s a) (hN : ∀ d, o.dst = some d → N.ok d) (hk : ∀ s' a' w' Φ' β', Rel w0 Φ0 own0 N w' Φ' β' s' a' → k s' = some r → next a' w')
    {t : TypeId} {x y : Operand} (ho : o.op = .store t x y) (h : stepK cx o s k = some r) : o.wp P a w next Q := by
  simp only [stepK, ho] at h
  split at h
  case h_2 => cases h
  rename_i td v u htd hx hy
  unfold storeS at h
  split at h
  · rename_i id i
    split at h
    · rename_i e l g hl
      split at h
      · rename_i e2 n
        exact step_put hcx hr hN hk ho htd hx hy hl h
      · cases h
    · exact step_storeK hcx hr hN hk ho htd hx hy h
  · exact step_storeK hcx hr hN hk ho htd hx hy h

/-! ### A map of rows -/
theorem KeysR_get {kt : CT} : ∀ {l : List kt.denote} {es : List MapEntry}, KeysR w Φ kt l es → es.length = l.length ∧ ∀ (i : Nat) (x : kt.denote) (e : MapEntry), l[i]? = some x → es[i]? = some e → VC w Φ kt x [e.key]
  | [], es, h => by cases h; exact ⟨rfl, fun i x e h => by simp at h⟩
  | y :: l, es, ⟨e, es', e1, e2, e3⟩ => by
    subst e1
    obtain ⟨h1, h2⟩ := KeysR_get e3
    refine ⟨by simp [h1], fun i x e' hx he => ?_⟩
    cases i with
    | zero => simp at hx he; subst hx; subst he; exact e2
    | succ i => exact h2 i x e' (by simpa using hx) (by simpa using he)
theorem KeysR_of {kt : CT} : ∀ {l : List kt.denote} {es : List MapEntry}, es.length = l.length → (∀ (i : Nat) (x : kt.denote) (e : MapEntry), l[i]? = some x → es[i]? = some e → VC w Φ kt x [e.key]) → KeysR w Φ kt l es
  | [], es, h, _ => List.eq_nil_of_length_eq_zero h
  | y :: l, [], h, _ => by simp at h
  | y :: l, e :: es, h, hv => ⟨e, es, rfl, hv 0 y e rfl rfl, KeysR_of (by simpa using h) (fun i x e' hx he => hv (i + 1) x e' (by simpa using hx) (by simpa using he))⟩

/-- A key among a map's, by its number. -/
theorem find_keys {c : CT} {V : Type} {d : TypeDesc} (hd : keyD c d) {x : c.denote} {kv : Value} (hx : VC w Φ c x [kv]) : ∀ (l : List (c.denote × V)) (es : List MapEntry) (i : Nat), KeysR w Φ c (l.map (·.1)) es →
    (assocIx c.eqK l x i = none ∧ assoc c.eqK l x = none ∧ Instr.findNow d kv es i = some none ∧ ∀ z, assocSet c.eqK l x z = l ++ [(x, z)]) ∨
    ∃ j e y, assocIx c.eqK l x i = some (i + j) ∧ assoc c.eqK l x = some y ∧ l[j]?.map (·.2) = some y ∧ es[j]? = some e ∧ e.key = kv ∧ Instr.findNow d kv es i = some (some (i + j, e.val)) ∧ ∀ z, assocSet c.eqK l x z = l.set j (x, z)
  | [], es, i, h => by cases h; exact .inl ⟨rfl, rfl, rfl, fun z => rfl⟩
  | p :: l, es, i, ⟨e, es', e1, e2, e5⟩ => by
    subst e1
    have hs := same_eqK hd hx e2
    cases hb : c.eqK x p.1 with
    | true =>
      rw [hb] at hs
      have hk : kv = e.key := eqK_same hd hx e2 hb
      exact .inr ⟨0, e, p.2, by simp [assocIx, hb], by simp [assoc, hb], rfl, rfl, hk.symm, by simp [Instr.findNow, hs], fun z => by simp [assocSet, hb]⟩
    | false =>
      rw [hb] at hs
      rcases find_keys hd hx l es' (i + 1) e5 with ⟨g1, g2, g3, g4⟩ | ⟨j, e', y, g1, g2, g3, g4, g5, g6, g7⟩
      · exact .inl ⟨by simp [assocIx, hb, g1], by simp [assoc, hb, g2], by simp [Instr.findNow, hs, g3], fun z => by simp [assocSet, hb, g4]⟩
      · exact .inr ⟨j + 1, e', y, by simp [assocIx, hb, g1]; omega, by simp [assoc, hb, g2], by simpa using g3, by simpa using g4, g5, by simp [Instr.findNow, hs, g6]; omega, fun z => by simp [assocSet, hb, g7]⟩

def foundV (z : Value) : Option (Nat × Value) → Value
  | some (_, v) => v
  | none => z

/-- A row is looked up in a map of rows. -/
theorem step_takeM (hcx : CxOk P cx) (hr : Rel w0 Φ0 own0 N w Φ β s a) (hN : ∀ d, o.dst = some d → N.ok d) (hk : ∀ s' a' w' Φ' β', Rel w0 Φ0 own0 N w' Φ' β' s' a' → k s' = some r → next a' w')
    {t : TypeId} {x i : Operand} (ho : o.op = .lookup t x i false) {id : Nat} {kt e : CT} {l : List (kt.denote × List e.denote)} {lf : Leaf} {y : kt.denote} (htd : cx.tab t = some (.map kt (.list e) false)) (hx : evalO s.env x = some (.one (.mp id))) (hi : evalO s.env i = some (.one lf))
    (hl : look s.heap id = some (.mrows kt e l none)) (hy : keyOf kt lf = some y) (h : takeK s id (.mrows kt e l (assocIx kt.eqK l y 0)) e (assocGet kt.eqK [] l y) (fun r s' => k (s'.set o.dst r)) = some r) : o.wp P a w next Q := by
  unfold takeK at h
  obtain ⟨hc, h⟩ := cond_none h
  simp only [Bool.and_eq_true, Bool.not_eq_true'] at hc
  obtain ⟨hh, hpos⟩ := hc
  rw [Nat.blt_eq] at hpos
  obtain ⟨_, ktt, et, hu, ⟨d, hkd, hkk⟩, inf, z, hinf, hz, hwf, hco, hzz, hone⟩ := hcx.tab t _ htd
  obtain ⟨b, es, clock, h1, h2, h3, h4, h5, h6⟩ := hr.hp.ob id _ hl
  obtain ⟨b', hb', hxv⟩ := hr.eval hx
  rw [h1] at hb'; cases hb'
  have hyv : VC w Φ kt y [a.eval i] := keyOf_VC hy (hr.eval hi)
  have hzv : z = .slice none 0 0 := by
    obtain ⟨v, vs, e1, e2, e3⟩ := hco
    cases e3
    have hv : v = .slice none 0 0 := e2
    rw [hzz, e1]
    show v = _
    exact hv
  have hdr : HdR w β id (.mrows kt e l none) (es.toList.map (·.val)) none := ⟨rfl, b, es, clock, h1, h3, rfl⟩
  have hrun : ∀ (q : Option (Nat × Value)), Instr.findNow d (a.eval i) es.toList 0 = some q → (execOp a.eval o).run P w = .ok (.value (foundV z q)) w := by
    intro q hq
    have : (Instr.lookup t (a.eval x) (a.eval i) false).run P w = .ok (foundV z q) w := by
      rw [hxv]
      unfold Instr.lookup
      simp only [Sem.run_bind, run_underlying hu, Result.andThen_ok, MapKept.run_getObj_map h3, Sem.run_pure, MapKept.run_checkKey hkd (keyD_isKey hkk hyv), MapKept.run_findKey hkd hq]
      cases q with
      | none => simp [zeroValue, run_info hinf, hz, foundV]
      | some p => obtain ⟨p1, p2⟩ := p; simp [foundV]
    simp [execOp, ho, this]
  -- with the gone one's number known
  have go : ∀ (g : Option Nat) (v : Value) (row : List e.denote), RowV w Φ e v row → (∀ c, PtB v c → RowB w β id (.mrows kt e l none) c) → (∀ c, RowB w β id (.mrows kt e l g) c → RowB w β id (.mrows kt e l none) c ∧ ¬ PtB v c) →
      (execOp a.eval o).run P w = .ok (.value v) w → k (((s.put id (.mrows kt e l g)).new (.arr e row)).set o.dst (.one (.sl s.next none))) = some r → o.wp P a w next Q := by
    intro g v row hrv hRB hsub hex hkk
    obtain ⟨hr1, m1⟩ := hr.rput (o' := .mrows kt e l g) rfl rfl hl h1 rfl hr.same rfl (fun _ _ => rfl) rfl h2 (fun c hc => .inl (hsub c hc).1)
      ⟨b, es, clock, h1, h2, h3, h4, h5, h6.len, fun j v' r' g1 g2 _ => h6.row j v' r' g1 g2 (by simp), fun i j v v' c g1 g2 _ _ g3 g4 => h6.dis i j v v' c g1 g2 (by simp) (by simp) g3 g4⟩
    obtain ⟨β', hr2, hsv⟩ := hr1.taken hrv hpos (fun c hc => by
      obtain ⟨g1, g2, g3⟩ := hr.hp.rin id _ c hl (hRB c hc)
      refine ⟨fun j ob p hj hown hb => ?_, g2, hr.rown id _ c hl (hRB c hc), fun j ob hj hcb => ?_⟩
      · simp only [St.put, look_cons] at hj
        split at hj
        · rename_i e'; subst e'; exact g3 _ _ p hl rfl hb
        · exact g3 j ob p hj hown hb
      · simp only [St.put, look_cons] at hj
        split at hj
        · rename_i e'; subst e'; cases hj; exact (hsub c hcb).2 hc
        · rename_i hne; exact hne (hr.hp.rinj id j _ ob c hl hj (hRB c hc) hcb))
    exact upon_ok hex (hk _ _ _ _ _ (hr2.set hsv hN) hkk)
  rcases find_keys hkk hyv l es.toList 0 h4 with ⟨g1, g2, g3, _⟩ | ⟨j, en, row, g1, g2, g3, g4, g5, g6, _⟩
  · rw [g1] at h
    have hrow : assocGet kt.eqK ([] : List e.denote) l y = [] := by simp [assocGet, g2]
    rw [hrow] at h
    refine go none z [] (.inl ⟨⟨none, hzv⟩, rfl⟩) (fun c ⟨o', n', cap, e1, e2⟩ => by rw [hzv] at e1; cases e1) (fun c hc => ⟨hc, fun ⟨o', n', cap, e1, e2⟩ => by rw [hzv] at e1; cases e1⟩) (hrun none g3) h
  · rw [Nat.zero_add] at g1 g6
    rw [g1] at h
    have hrow : assocGet kt.eqK ([] : List e.denote) l y = row := by simp [assocGet, g2]
    rw [hrow] at h
    have hv : (es.toList.map (·.val))[j]? = some en.val := by rw [List.getElem?_map, g4]; rfl
    have hd : ∀ hs' g', HdR w β id (.mrows kt e l (some j)) hs' g' → HdR w β id (.mrows kt e l none) hs' none ∧ hs' = es.toList.map (·.val) ∧ g' = some j := by
      rintro hs' g' ⟨k1, b', es', cl', k2, k3, k4⟩
      rw [h1] at k2; cases k2
      rw [h3] at k3; cases k3
      subst k4
      exact ⟨hdr, rfl, k1⟩
    refine go (some j) en.val row (h6.row j en.val row hv (by rw [List.getElem?_map]; exact g3) (by simp)) (fun c hc => ⟨_, none, hdr, j, en.val, hv, by simp, hc⟩) (fun c hc => row_out hdr hd hv (fun i j v v' c q1 q2 q3 q4 => h6.dis i j v v' c q1 q2 (by simp) (by simp) q3 q4) hc) (hrun _ g6) h

theorem step_lookup (hcx : CxOk P cx) (hr : Rel w0 Φ0 own0 N w Φ β s a) (hN : ∀ d, o.dst = some d → N.ok d) (hk : ∀ s' a' w' Φ' β', Rel w0 Φ0 own0 N w' Φ' β' s' a' → k s' = some r → next a' w')
    {t : TypeId} {x i : Operand} {ok : Bool} (ho : o.op = .lookup t x i ok) (h : stepK cx o s k = some r) : o.wp P a w next Q := by
  simp only [stepK, ho] at h
  split at h
  case h_2 => cases h
  rename_i td v j htd hx hi
  rcases lookupS_cases h with h | ⟨id, kt, e, l, lf, y, e1, e2, e3, e4, e5, e6, e7⟩
  · exact step_lookupK hcx hr hN hk ho htd hx hi h
  · subst e1; subst e3; subst e4; subst e5
    exact step_takeM hcx hr hN hk ho htd hx hi e2 e6 e7

/-- A row is laid into a map of rows. -/
theorem step_putM (hcx : CxOk P cx) (hr : Rel w0 Φ0 own0 N w Φ β s a) (hN : ∀ d, o.dst = some d → N.ok d) (hk : ∀ s' a' w' Φ' β', Rel w0 Φ0 own0 N w' Φ' β' s' a' → k s' = some r → next a' w')
    {t : TypeId} {x i y : Operand} (hex : ∀ w', (Instr.mapUpdate t (a.eval x) (a.eval i) (a.eval y)).run P w = .ok () w' → (execOp a.eval o).run P w = .ok .skip w')
    {id : Nat} {kt e : CT} {l : List (kt.denote × List e.denote)} {g : Option Nat} {lf : Leaf} {q : kt.denote} {u : SVal} (htd : cx.tab t = some (.map kt (.list e) false)) (hx : evalO s.env x = some (.one (.mp id))) (hi : evalO s.env i = some (.one lf)) (hy : evalO s.env y = some u)
    (hl : look s.heap id = some (.mrows kt e l g)) (hq : keyOf kt lf = some q)
    (h : rowK s e u (fun id' row => bif outI g (assocIx kt.eqK l q 0) && !s.held id then k (((s.put id' .dead).put id (.mrows kt e (assocSet kt.eqK l q row) none)).set o.dst (.one .undef)) else none) = some r) : o.wp P a w next Q := by
  obtain ⟨id', row, hu', hl', hh', hpos, h7⟩ := rowK_spec h
  clear h
  subst hu'
  obtain ⟨hc, h⟩ := cond_none h7
  simp only [Bool.and_eq_true, Bool.not_eq_true'] at hc
  obtain ⟨hout, hh⟩ := hc
  have hne : id ≠ id' := fun e' => by subst e'; rw [hl] at hl'; cases hl'
  obtain ⟨_, ktt, et, hu, ⟨d, hkd, hkk⟩, inf, z, hinf, hz, hwf, hco, hzz, hone⟩ := hcx.tab t _ htd
  obtain ⟨b, es, clock, h1, h2, h3, h4, h5, h6⟩ := hr.hp.ob id _ hl
  obtain ⟨b', hb', hxv⟩ := hr.eval hx
  rw [h1] at hb'; cases hb'
  have hqv : VC w Φ kt q [a.eval i] := keyOf_VC hq (hr.eval hi)
  have hyv : LfR w Φ β s.heap (.sl id' none) (a.eval y) := hr.eval hy
  obtain ⟨hrv, hpt⟩ := own_row hr hl' hyv hpos
  have hr1 := hr.give (ob := .arr e row) rfl hl' rfl hh'
  have hl1 : look (s.put id' .dead).heap id = some (.mrows kt e l g) := by
    simp only [St.put, look_cons]; rw [if_neg (fun e' => hne e'.symm)]; exact hl
  have hlen := h6.len
  simp only [List.length_map] at hlen
  have hnewc : ∀ c, PtB (a.eval y) c → ¬ Φ c ∧ c < w.heap.size ∧ (∀ j ob p, look (s.put id' .dead).heap j = some ob → ob.owned = true → β j ≠ some (some (c, p))) ∧ (∀ j ob, look (s.put id' .dead).heap j = some ob → ¬ RowB w β j ob c) ∧ (own0 c ∨ w0.heap.size ≤ c) := by
    intro c hc
    obtain ⟨p, hp⟩ := hpt c hc
    refine ⟨?_, hr.hp.blt _ _ _ hp, fun j ob p' hj hown hb => ?_, norow hr hl' rfl hp (fun _ _ => rfl), hr.mine hh' hl' rfl hp⟩
    · rcases hr.hp.ob id' _ hl' with ⟨k1, _⟩ | ⟨c', p', k1, k2, _⟩
      · rw [hp] at k1; cases k1
      · rw [hp] at k1; cases k1; exact k2
    · simp only [St.put, look_cons] at hj
      split at hj
      · cases hj; cases hown
      · rename_i hne'; exact hne' (hr.hp.inj id' j _ ob c p p' hl' hj rfl hown hp hb)
  have hnb : ∀ c, PtB (a.eval y) c → c ≠ b := fun c hc e' => by
    subst e'
    exact (hnewc _ hc).2.2.1 id _ 0 hl1 rfl h1
  have hold : ∀ j v c, g ≠ some j → (es.toList.map (·.val))[j]? = some v → PtB v c → RowB w β id (.mrows kt e l g) c := fun j v c hj hv hc => ⟨_, g, ⟨rfl, b, es, clock, h1, h3, rfl⟩, j, v, hv, hj, hc⟩
  have holdb : ∀ c, RowB w β id (.mrows kt e l g) c → c ≠ b := fun c hc e' => by
    subst e'
    exact (hr.hp.rin id _ _ hl hc).2.2 id _ 0 hl rfl h1
  -- with the new entries known
  have fin : ∀ (es2 : Array MapEntry) (clock2 jj : Nat), BornOk es2.toList clock2 → KeysR w Φ kt ((assocSet kt.eqK l q row).map (·.1)) es2.toList →
      (∀ m v r', (es2.toList.map (·.val))[m]? = some v → ((assocSet kt.eqK l q row).map (·.2))[m]? = some r' → (m = jj ∧ v = a.eval y ∧ r' = row) ∨ (m ≠ jj ∧ g ≠ some m ∧ (es.toList.map (·.val))[m]? = some v ∧ (l.map (·.2))[m]? = some r')) →
      (Instr.mapUpdate t (a.eval x) (a.eval i) (a.eval y)).run P w = .ok () { w with heap := w.heap.setIfInBounds b (.map es2 clock2) } → o.wp P a w next Q := by
    intro es2 clock2 jj f1 f2 f3 f4
    obtain ⟨q1, q2⟩ := MapKept.heap_set (o' := Obj.map es2 clock2) h3
    let w' : World := { w with heap := w.heap.setIfInBounds b (.map es2 clock2) }
    have hsz : w'.heap.size = w.heap.size := by simp [w']
    have hbs : blockSize w' b = blockSize w b := by unfold blockSize; rw [show w'.heap[b]? = _ from q1, h3]
    have hot : ∀ c, c ≠ b → w'.heap[c]? = w.heap[c]? := q2
    have hmine := hr.mine hh hl rfl h1
    have hsame : Same w0 own0 w' := ⟨hr.same.os, hr.same.tape, hr.same.output, by rw [hsz]; exact hr.same.size, fun b' hb' hn => by
      rw [hot b' (fun e' => by subst e'; rcases hmine with g | g; exact hn g; omega)]; exact hr.same.block b' hb' hn⟩
    have hklen : (es2.toList.map (·.val)).length = ((assocSet kt.eqK l q row).map (·.2)).length := by
      have := (KeysR_get f2).1
      simpa using this
    have f3' : ∀ m v, (es2.toList.map (·.val))[m]? = some v → (m = jj ∧ v = a.eval y) ∨ (m ≠ jj ∧ g ≠ some m ∧ (es.toList.map (·.val))[m]? = some v) := by
      intro m v hm
      have hlt := (List.getElem?_eq_some_iff.1 hm).1
      obtain ⟨r', hr'⟩ : ∃ r', ((assocSet kt.eqK l q row).map (·.2))[m]? = some r' := ⟨_, List.getElem?_eq_getElem (by rw [← hklen]; exact hlt)⟩
      rcases f3 m v r' hm hr' with ⟨e1, e2, _⟩ | ⟨e1, e2, e3, _⟩
      · exact .inl ⟨e1, e2⟩
      · exact .inr ⟨e1, e2, e3⟩
    have m0 : Mono w Φ β (s.put id' .dead).heap w' Φ β ((s.put id' .dead).put id (.mrows kt e (assocSet kt.eqK l q row) none)).heap := by
      refine ⟨fun c hc => hot c (fun e' => h2 (e' ▸ hc)), fun _ h => h, fun _ _ h => h, ?_, ?_⟩
      · intro j x hx r hr
        simp only [St.put, look_cons] at hr ⊢
        split at hr
        · cases hr
        · exact hr
      · intro j c o r hj hr
        by_cases e' : c = b
        · rw [e']; exact hbs
        · unfold blockSize; rw [hot c e']
    obtain ⟨hr2, _⟩ := hr1.rput (o' := .mrows kt e (assocSet kt.eqK l q row) none) rfl rfl hl1 h1 rfl hsame hsz hot hbs h2
      (fun c hc => by
        obtain ⟨hs2, g2, ⟨k1, b3, es3, cl3, k3, k4, k5⟩, m, v, k6, k7, k8⟩ := hc
        rw [h1] at k3; cases k3
        have k4' : w'.heap[b]? = some (.map es3 cl3) := k4
        rw [show w'.heap[b]? = _ from q1] at k4'
        cases k4'
        subst k5
        rcases f3' m v k6 with ⟨_, e2⟩ | ⟨_, e2, e3⟩
        · subst e2; exact .inr (hnewc c k8)
        · exact .inl (hold m v c e2 e3 k8))
      ⟨b, es2, clock2, h1, h2, q1, KeysR_mono m0.frz m0.sub _ _ f2, f1, hklen, fun m v r' k1 k2 _ => by
        rcases f3 m v r' k1 k2 with ⟨_, e2, e3⟩ | ⟨_, e2, e3, e4⟩
        · subst e2; subst e3
          exact RowV_mono m0 (fun c hc => ⟨hot c (hnb c hc), fun h => h⟩) hrv
        · exact RowV_mono m0 (fun c hc => ⟨hot c (holdb c (hold m v c e2 e3 hc)), fun h => h⟩) (h6.row m v r' e3 e4 e2),
        fun m m' v v' c k1 k2 _ _ k3 k4 => by
          rcases f3' m v k1 with ⟨e1, e2⟩ | ⟨e1, e2, e3⟩ <;> rcases f3' m' v' k2 with ⟨e1', e2'⟩ | ⟨e1', e2', e3'⟩
          · rw [e1, e1']
          · subst e2
            obtain ⟨p, hp⟩ := hpt c k3
            exact absurd hp ((hr.hp.rin id _ c hl (hold m' v' c e2' e3' k4)).2.2 id' _ p hl' rfl)
          · subst e2'
            obtain ⟨p, hp⟩ := hpt c k4
            exact absurd hp ((hr.hp.rin id _ c hl (hold m v c e2 e3 k3)).2.2 id' _ p hl' rfl)
          · exact h6.dis m m' v v' c e3 e3' e2 e2' k3 k4⟩
    exact upon_skip (hex _ f4) (hk _ _ _ _ _ (hr2.set (sv := .one .undef) (v := undef) trivial hN) h)
  have hck : ∀ n, (Instr.checkKey false (n + 1) ktt (a.eval i)).run P w = .ok () w := fun n => MapKept.run_checkKey hkd (keyD_isKey hkk hqv) false n
  have hgl := KeysR_get h4
  rcases find_keys hkk hqv l es.toList 0 h4 with ⟨g1, g2, g3, g4⟩ | ⟨j, en, row0, g1, g2, g3, g4, g5, g6, g7⟩
  · have hg0 : g = none := by
      rw [g1] at hout
      cases g with
      | none => rfl
      | some m => cases hout
    refine fin (es.push { key := a.eval i, val := a.eval y, born := clock }) (clock + 1) l.length ?_ ?_ ?_ ?_
    · rw [Array.toList_push]
      refine ⟨fun e he => ?_, List.pairwise_append.2 ⟨h5.2, by simp, fun x hx y hy => ?_⟩⟩
      · rcases List.mem_append.1 he with g | g
        · have := h5.1 e g; omega
        · simp at g; subst g; exact Nat.lt_succ_self _
      · simp at hy; subst hy; have := h5.1 x hx; simp only; omega
    · rw [Array.toList_push, g4, List.map_append]
      refine KeysR_of (by simp [hlen]) (fun m x en hx hen => ?_)
      by_cases hm : m < l.length
      · rw [List.getElem?_append_left (by simpa using hm)] at hx
        rw [List.getElem?_append_left (by simp [hlen]; exact hm)] at hen
        exact hgl.2 m x en hx hen
      · have hmm : m = l.length := by
          have := (List.getElem?_eq_some_iff.1 hx).1
          simp at this; omega
        subst hmm
        rw [List.getElem?_append_right (by simp)] at hx
        rw [List.getElem?_append_right (by omega), hlen] at hen
        simp at hx hen
        subst hx; subst hen
        exact hqv
    · rw [Array.toList_push, g4, List.map_append, List.map_append]
      intro m v r' hm hr'
      by_cases hml : m < l.length
      · rw [List.getElem?_append_left (by simpa [hlen] using hml)] at hm
        rw [List.getElem?_append_left (by simpa using hml)] at hr'
        exact .inr ⟨by omega, by rw [hg0]; simp, hm, hr'⟩
      · have hmm : m = l.length := by
          have := (List.getElem?_eq_some_iff.1 hr').1
          simp at this; omega
        subst hmm
        rw [List.getElem?_append_right (by simp)] at hr'
        rw [List.getElem?_append_right (by rw [List.length_map]; omega)] at hm
        simp [hlen] at hm hr'
        exact .inl ⟨rfl, hm.symm, hr'.symm⟩
    · rw [hxv]
      unfold Instr.mapUpdate
      simp only [Sem.run_bind, run_underlying hu, Result.andThen_ok, MapKept.run_getObj_map h3, hck, MapKept.run_findKey hkd g3, MapKept.run_setObj_map _ h3]
  · rw [Nat.zero_add] at g1 g6
    have hg0 : ∀ m, m ≠ j → g ≠ some m := by
      intro m hm e'
      rw [g1, e'] at hout
      exact hm (Nat.eq_of_beq_eq_true hout)
    have hsb : Instr.sameBits 10000 (a.eval i) (a.eval i) = true := sameBits_key (keyD_isKey hkk hqv)
    have hje : es[j]? = some en := by simpa using g4
    have hjl : j < l.length := by
      have := (List.getElem?_eq_some_iff.1 g4).1
      omega
    have hbm : (es.modify j fun e => { e with key := a.eval i, val := a.eval y }).toList.map (·.born) = es.toList.map (·.born) := by
      apply List.ext_getElem?
      intro m
      simp only [List.getElem?_map, Array.getElem?_toList, Array.getElem?_modify]
      by_cases hij : j = m
      · subst hij
        cases es[j]? <;> simp
      · simp [hij]
    refine fin (es.modify j fun e => { e with key := a.eval i, val := a.eval y }) clock j ?_ ?_ ?_ ?_
    · have hp2 : (es.toList.map (·.born)).Pairwise (· ≠ ·) := List.pairwise_map.2 h5.2
      refine ⟨fun x hx => ?_, ?_⟩
      · have : x.born ∈ (es.modify j fun e => { e with key := a.eval i, val := a.eval y }).toList.map (·.born) := List.mem_map.2 ⟨x, hx, rfl⟩
        rw [hbm] at this
        obtain ⟨x', hx', e'⟩ := List.mem_map.1 this
        rw [← e']; exact h5.1 x' hx'
      · rw [← hbm] at hp2
        exact List.pairwise_map.1 hp2
    · rw [g7]
      refine KeysR_of (by simpa using hlen) (fun m x e' hx he => ?_)
      rw [Array.getElem?_toList, Array.getElem?_modify] at he
      rw [List.getElem?_map, List.getElem?_set] at hx
      by_cases hjm : j = m
      · subst hjm
        rw [if_pos rfl, if_pos hjl] at hx
        rw [if_pos rfl, hje] at he
        simp at hx he
        subst hx; subst he
        exact hqv
      · rw [if_neg hjm] at hx he
        exact hgl.2 m x e' (by rw [List.getElem?_map]; exact hx) (by rw [Array.getElem?_toList]; exact he)
    · rw [g7]
      intro m v r' hm hr'
      rw [List.getElem?_map, Array.getElem?_toList, Array.getElem?_modify] at hm
      rw [List.getElem?_map, List.getElem?_set] at hr'
      by_cases hjm : j = m
      · subst hjm
        rw [if_pos rfl, if_pos hjl] at hr'
        rw [if_pos rfl, hje] at hm
        simp at hr' hm
        exact .inl ⟨rfl, hm.symm, hr'.symm⟩
      · rw [if_neg hjm] at hm hr'
        exact .inr ⟨fun e' => hjm e'.symm, hg0 m (fun e' => hjm e'.symm), by rw [List.getElem?_map, Array.getElem?_toList]; exact hm, by rw [List.getElem?_map]; exact hr'⟩
    · rw [hxv]
      unfold Instr.mapUpdate
      have hkts : (Instr.keyThatStays (((es[j]?).map (·.key)).getD (a.eval i)) (a.eval i)).run P w = .ok (a.eval i) w := by
        rw [hje]
        simp only [Option.map_some, Option.getD_some, g5]
        unfold Instr.keyThatStays
        rw [if_pos hsb]; simp
      simp only [Sem.run_bind, run_underlying hu, Result.andThen_ok, MapKept.run_getObj_map h3, hck, MapKept.run_findKey hkd g6, hkts, MapKept.run_setObj_map _ h3]

theorem step_mapUpdate (hcx : CxOk P cx) (hr : Rel w0 Φ0 own0 N w Φ β s a) (hN : ∀ d, o.dst = some d → N.ok d) (hk : ∀ s' a' w' Φ' β', Rel w0 Φ0 own0 N w' Φ' β' s' a' → k s' = some r → next a' w')
    {t : TypeId} {x i y : Operand} (ho : o.op = .mapUpdate t x i y ∨ o.op = .insert t x i y) (h : stepK cx o s k = some r) : o.wp P a w next Q := by
  have h' : (match cx.tab t, evalO s.env x, evalO s.env i, evalO s.env y with
    | some td, some v, some j, some u => updateS td s v j u fun s' => k (s'.set o.dst (.one .undef))
    | _, _, _, _ => none) = some r := by
    rcases ho with ho | ho <;> (simp only [stepK, ho] at h; exact h)
  have hex : ∀ w', (Instr.mapUpdate t (a.eval x) (a.eval i) (a.eval y)).run P w = .ok () w' → (execOp a.eval o).run P w = .ok .skip w' := by
    intro w' hh
    rcases ho with ho | ho <;> simp [execOp, ho, hh]
  clear h
  split at h'
  case h_2 => cases h'
  rename_i td v j u htd hx hi hy
  unfold updateS at h'
  split at h'
  · rename_i id
    split at h'
    · rename_i kt e l g hl
      split at h'
      · rename_i kt' vt agg lf
        split at h'
        case isFalse => cases h'
        rename_i hc
        obtain ⟨rfl, rfl, rfl⟩ := hc
        split at h'
        · rename_i q hq
          exact step_putM hcx hr hN hk hex htd hx hi hy hl hq h'
        · cases h'
      · cases h'
    · exact step_mapUpdateK hcx hr hN hk ho htd hx hi hy h'
  · exact step_mapUpdateK hcx hr hN hk ho htd hx hi hy h'

/-- An interface's value is made. -/
theorem pstep_makeIface (hcx : CxOk P cx) (hr : Rel w0 Φ0 own0 N w Φ β s a) {t : TypeId} {x : Operand} (ho : o.op = .makeInterface t x) (h : stepK cx o s k = some r) : PStep P R (fun _ => True) w Φ β s a o k r := by
  simp only [stepK, ho] at h
  split at h
  · rename_i j z j' n htd hx
    have hv := hr.eval hx
    obtain ⟨_, d, hd, _, hi, _⟩ := hcx.tab t _ htd
    have hd' := hi _ _ rfl
    subst hd'
    refine pstep h (v := .iface t (a.eval x)) (fun w _ => by simp [execOp, ho, Instr.makeInterface, run_underlying hd]) ?_
    have hv' : a.eval x = .int j' n := hv
    rw [hv']; rfl
  · rename_i id off htd hx
    obtain ⟨b, hb, hv⟩ := hr.eval hx
    obtain ⟨_, d, hd, _, _, _, _, hp⟩ := hcx.tab t _ htd
    refine pstep h (v := .iface t (a.eval x)) (fun w _ => ?_) ⟨b, hb, by rw [hv]⟩
    have := hp rfl
    simp only [execOp, ho, Instr.makeInterface, Sem.run_bind, run_underlying hd, Result.andThen_ok]
    cases d <;> first | rfl | exact absurd rfl (this _)
  · cases h

/-- A number is read out of an interface's value. -/
theorem pstep_assert (hcx : CxOk P cx) (hr : Rel w0 Φ0 own0 N w Φ β s a) {t t2 : TypeId} {x : Operand} (ho : o.op = .typeAssert x t2 t false) (h : stepK cx o s k = some r) : PStep P R (fun _ => True) w Φ β s a o k r := by
  simp only [stepK, ho] at h
  split at h
  · rename_i j z t' j' n htd hx
    have hv : a.eval x = .iface t' (.int j' n) := hr.eval hx
    obtain ⟨_, d, hd, _, hi, _⟩ := hcx.tab t _ htd
    have hd' := hi _ _ rfl
    subst hd'
    obtain ⟨hc, h2⟩ := cond_none h
    have ht := Nat.eq_of_beq_eq_true hc
    subst ht
    exact pstep h2 (v := .int j' n) (fun w _ => by simp [execOp, ho, Instr.typeAssert, run_underlying hd, hv]) rfl
  · cases h

end
end Go.Bm
