import Derived.Test.YtlobhcgbmpcdlaaGreatDoorBmStep3
namespace Go.Bm
set_option linter.unusedVariables false
set_option linter.unusedSimpArgs false
section
variable {P : Program} {w0 : World} {Φ0 own0 : Nat → Prop} {N : Frm} {w : World} {Φ : Nat → Prop} {β : Loc} {s : St} {a : Act} {hp : List (Nat × SObj)}
theorem sub_len {α : Type} (l : List α) (r : Option (Nat × Nat)) (h : (r.getD (0, l.length)).1 + (r.getD (0, l.length)).2 ≤ l.length) : (sub l r).length = (r.getD (0, l.length)).2 := by
 cases r with
 | none => rfl
 | some p => simp [sub] at *; omega
theorem sub_nth {α : Type} (l : List α) (r : Option (Nat × Nat)) (i : Nat) (x : α) (h : nth (sub l r) i = some x) : nth l ((r.getD (0, l.length)).1 + i) = some x := by
 cases r with
 | none => simpa [sub] using h
 | some p =>
   rw [nth_getElem?] at *
   simp only [sub, List.getElem?_take] at h
   split at h
   · simpa using h
   · cases h
theorem row_VC {e : CT} {l : List e.denote} {r : Option (Nat × Nat)} {v : Value} {loc : Option (Nat × Nat)} (hs : SlR w loc e.size l.length r v)
  (hrow : ∀ b o, loc = some (b, o) → Φ b ∧ RowAt w Φ e b o l) : VC w Φ (.list e) (sub l r) [v] := by
 unfold SlR at hs
 cases loc with
 | none =>
   obtain ⟨⟨z, h1⟩, h2, h3⟩ := hs
   have hl : l = [] := List.eq_nil_of_length_eq_zero h2
   subst hl
   have hsub : sub ([] : List e.denote) r = [] := by cases r <;> simp [sub]
   rw [hsub]
   exact ⟨z, 0, by rw [h1]; rfl, Nat.le_refl _, .inl rfl⟩
 | some bo =>
   obtain ⟨b, o⟩ := bo
   obtain ⟨o', cap, h1, h2, h3, h4, h5, _⟩ := hs
   obtain ⟨hΦ, hat⟩ := hrow b o rfl
   refine ⟨some ⟨b, o', none⟩, cap, by rw [h1, sub_len l r h4], by rw [sub_len l r h4]; exact h2, ?_⟩
   by_cases hn : sub l r = []
   · exact .inl hn
   · refine .inr ⟨b, o', rfl, hΦ, fun i x hx => ?_⟩
     obtain ⟨us, hu, hv⟩ := hat _ x (sub_nth l r i x hx)
     refine ⟨us, ?_, hv⟩
     rcases h3 with h3 | h3
     · rw [h3, show o + (r.getD (0, l.length)).1 * e.size + i * e.size = o + ((r.getD (0, l.length)).1 + i) * e.size by rw [Nat.add_mul]; omega]
       exact hu
     · exfalso
       apply hn
       apply List.eq_nil_of_length_eq_zero
       rw [sub_len l r h4]; omega
structure Packed (w : World) (Φ : Nat → Prop) (β : Loc) (s : St) (Φ' : Nat → Prop) (s' : St) : Prop where
 mono : Mono w Φ β s.heap w Φ' β s'.heap
 env : s'.env = s.env
 next : s'.next = s.next
 hold : s'.hold = s.hold
 look : ∀ id o, look s'.heap id = some o → o.owned = true → look s.heap id = some o
theorem Packed.refl (w : World) (Φ : Nat → Prop) (β : Loc) (s : St) : Packed w Φ β s Φ s :=
 ⟨⟨fun _ _ => rfl, fun _ h => h, fun _ _ h => h, fun _ _ _ _ h => h, fun _ _ _ _ _ _ => rfl⟩, rfl, rfl, rfl, fun _ _ h _ => h⟩
theorem Mono.trans {w w' w'' : World} {Φ Φ' Φ'' : Nat → Prop} {β β' β'' : Loc} {hp hp' hp'' : List (Nat × SObj)} (h : Mono w Φ β hp w' Φ' β' hp') (k : Mono w' Φ' β' hp' w'' Φ'' β'' hp'') : Mono w Φ β hp w'' Φ'' β'' hp'' :=
 ⟨fun b hb => (k.frz b (h.sub b hb)).trans (h.frz b hb), fun b hb => k.sub b (h.sub b hb), fun id x hx => k.loc id x (h.loc id x hx), fun id x hx r hr => h.row id x hx r (k.row id x (h.loc id x hx) r hr),
  fun id b o r hb hr => (k.bs id b o r (h.loc id _ hb) hr).trans (h.bs id b o r hb (k.row id _ (h.loc id _ hb) r hr))⟩
theorem Packed.trans {Φ' Φ'' : Nat → Prop} {s' s'' : St} (h : Packed w Φ β s Φ' s') (k : Packed w Φ' β s' Φ'' s'') : Packed w Φ β s Φ'' s'' :=
 ⟨h.mono.trans k.mono, k.env.trans h.env, k.next.trans h.next, k.hold.trans h.hold, fun id o hl ho => h.look id o (k.look id o hl ho) ho⟩
theorem Rel.freeze (hr : Rel w0 Φ0 own0 N w Φ β s a) {id : Nat} {e : CT} {l : List e.denote} (hl : look s.heap id = some (.arr e l)) (hh : s.held id = false) :
  ∃ Φ', Rel w0 Φ0 own0 N w Φ' β (s.put id (.frz e l)) a ∧ Packed w Φ β s Φ' (s.put id (.frz e l)) ∧ (∀ b o, β id = some (some (b, o)) → Φ' b ∧ RowAt w Φ' e b o l) := by
 let Φ' : Nat → Prop := fun b => Φ b ∨ ∃ p, β id = some (some (b, p))
 have hsub : ∀ b, Φ b → Φ' b := fun b h => .inl h
 have hrow : ∀ b o, β id = some (some (b, o)) → Φ' b ∧ RowAt w Φ' e b o l := by
  intro b o hb
  refine ⟨.inr ⟨o, hb⟩, ?_⟩
  rcases hr.hp.ob id _ hl with ⟨h1, _⟩ | ⟨b', o', h1, _, _, h4⟩
  · rw [hb] at h1; cases h1
  · rw [hb] at h1; cases h1
    intro i x hx
    obtain ⟨us, hu, hv⟩ := h4 i x hx
    exact ⟨us, hu, VC_mono (fun _ _ => rfl) hsub _ _ _ hv⟩
 have hRel : Rel w0 Φ0 own0 N w Φ' β (s.put id (.frz e l)) a := by
  refine hr.turn rfl rfl hl (.inl rfl) hh w Φ' hr.same rfl hsub ?_ (fun _ _ _ => rfl) (fun _ _ => rfl) (fun _ _ => rfl) (.inl rfl) ?_
  · intro b hb
    rcases hb with hb | hb
    · exact .inl hb
    · exact .inr ⟨rfl, rfl, hb⟩
  · rcases hr.hp.ob id _ hl with ⟨h1, h2⟩ | ⟨b', o', h1, _, _, h4⟩
    · exact .inl ⟨h1, h2⟩
    · exact .inr ⟨b', o', h1, (hrow b' o' h1).1, (hrow b' o' h1).2⟩
 refine ⟨Φ', hRel, ⟨⟨fun _ _ => rfl, hsub, fun _ _ h => h, ?_, fun _ _ _ _ _ _ => rfl⟩, rfl, rfl, rfl, ?_⟩, hrow⟩
 · intro j x hx r hrr
   simp only [St.put, look_cons] at hrr
   split at hrr
   · rename_i e'; subst e'; rw [hl]; exact hrr
   · exact hrr
 · intro j o hj ho
   simp only [St.put, look_cons] at hj
   split at hj
   · cases hj; cases ho
   · exact hj
theorem Rel.freezeO (hr : Rel w0 Φ0 own0 N w Φ β s a) {id : Nat} {o o' : SObj} (hir : o.isRows = true) (hnr : o'.isRows = false) (hl : look s.heap id = some o) (hh : s.held id = false) (hrow : rowOf (some o') = rowOf (some o))
  {Φ' : Nat → Prop} (hΦ' : ∀ b, Φ' b ↔ Φ b ∨ RowB w β id o b ∨ (o'.owned = false ∧ ∃ p, β id = some (some (b, p)))) (hob : ObR w Φ' β (s.put id o').heap id o') :
  Rel w0 Φ0 own0 N w Φ' β (s.put id o') a ∧ Mono w Φ β s.heap w Φ' β (s.put id o').heap := by
 have hown : o.owned = true := by cases o <;> first | rfl | cases hir
 have hsub : ∀ b, Φ b → Φ' b := fun b h => (hΦ' b).2 (.inl h)
 have hlk : ∀ j ob, look (s.put id o').heap j = some ob → (j = id ∧ ob = o') ∨ (j ≠ id ∧ look s.heap j = some ob) := by
  intro j ob hj
  simp only [St.put, look_cons] at hj
  split at hj
  · rename_i e; exact .inl ⟨e.symm, by cases hj; rfl⟩
  · rename_i e; exact .inr ⟨fun e' => e e'.symm, hj⟩
 have m : Mono w Φ β s.heap w Φ' β (s.put id o').heap := by
  refine ⟨fun _ _ => rfl, hsub, fun _ _ h => h, ?_, fun _ _ _ _ _ _ => rfl⟩
  intro j x hx r hr
  simp only [St.put, look_cons] at hr
  split at hr
  · rename_i e; subst e; rw [hl, ← hrow]; exact hr
  · exact hr
 have main : ∀ j ob b p, j ≠ id → look s.heap j = some ob → ob.owned = true → β j = some (some (b, p)) → ¬ Φ b → ¬ Φ' b := by
  intro j ob b p hne hj ho hb hn hn'
  rcases (hΦ' b).1 hn' with h | h | ⟨_, q, h⟩
  · exact hn h
  · exact (hr.hp.rin id o b hl h).2.2 j ob p hj ho hb
  · exact hne (hr.hp.inj j id ob o b p q hj hl ho hown hb h)
 have rows : ∀ j ob c, j ≠ id → look s.heap j = some ob → RowB w β j ob c → ¬ Φ' c := by
  intro j ob c hne hj hc hn'
  obtain ⟨g1, g2, g3⟩ := hr.hp.rin j ob c hj hc
  rcases (hΦ' c).1 hn' with h | h | ⟨_, q, h⟩
  · exact g1 h
  · exact hne (hr.hp.rinj j id ob o c hj hl hc h)
  · exact g3 id o q hl hown h
 have hrl : ∀ j ob c, look (s.put id o').heap j = some ob → RowB w β j ob c → j ≠ id ∧ look s.heap j = some ob := by
  intro j ob c hj hc
  rcases hlk j ob hj with ⟨_, e⟩ | h
  · rw [e] at hc; exact absurd hc (RowB_none hnr)
  · exact h
 refine ⟨⟨fun t v hv => SVR_mono m _ _ (hr.env t v hv), ⟨?_, hr.hp.lt, ?_, ?_, hr.hp.blt, ?_, ?_, ?_⟩, ?_, hr.same, fun b hb => hsub b (hr.fri b hb), ?_, hr.size, hr.fix, hr.defers, hr.hold, hr.keep' m, ?_⟩, m⟩
 · intro j ob hj
   rcases hlk j ob hj with ⟨e1, e2⟩ | ⟨hne, hj⟩
   · rw [e1, e2]; exact hob
   · cases ho : ob.owned with
     | true => exact ObR_mono m (fun _ _ _ => rfl) (fun _ b p hb hn => main j ob b p hne hj ho hb hn) (fun c hc => ⟨rfl, fun _ => rows j ob c hne hj hc⟩) (hr.hp.ob j ob hj)
     | false =>
       cases ob with
       | dead => trivial
       | frz e l =>
         rcases hr.hp.ob j _ hj with ⟨h1, h2⟩ | ⟨b, p, h1, h2, h4⟩
         · exact .inl ⟨h1, h2⟩
         · exact .inr ⟨b, p, h1, hsub b h2, RowAt_mono m rfl h4⟩
       | _ => cases ho
 · intro j ob hj
   rcases hlk j ob hj with ⟨e1, _⟩ | ⟨_, hj⟩
   · rw [e1]; exact hr.hp.hlt _ _ hl
   · exact hr.hp.hlt _ _ hj
 · have fix : ∀ j ob, look (s.put id o').heap j = some ob → ob.owned = true → ∃ ob2, look s.heap j = some ob2 ∧ ob2.owned = true := by
    intro j ob hj ho
    rcases hlk j ob hj with ⟨e1, _⟩ | ⟨_, hj⟩
    · rw [e1]; exact ⟨o, hl, hown⟩
    · exact ⟨ob, hj, ho⟩
   intro j j' ob ob' b q q' hj hj' ho1 ho2 hb hb'
   obtain ⟨x, hx1, hx2⟩ := fix j ob hj ho1
   obtain ⟨y, hy1, hy2⟩ := fix j' ob' hj' ho2
   exact hr.hp.inj j j' x y b q q' hx1 hy1 hx2 hy2 hb hb'
 · intro b hb
   rcases (hΦ' b).1 hb with h | h | ⟨_, q, h⟩
   · exact hr.hp.flt b h
   · exact (hr.hp.rin id o b hl h).2.1
   · exact hr.hp.blt _ _ _ h
 · intro j ob c hj hc
   obtain ⟨hne, hj2⟩ := hrl j ob c hj hc
   obtain ⟨g1, g2, g3⟩ := hr.hp.rin j ob c hj2 hc
   refine ⟨rows j ob c hne hj2 hc, g2, fun j' ob' p hj' ho' hb => ?_⟩
   rcases hlk j' ob' hj' with ⟨e1, _⟩ | ⟨_, hj'⟩
   · rw [e1] at hb; exact g3 id o p hl hown hb
   · exact g3 j' ob' p hj' ho' hb
 · intro j j' ob ob' c hj hj' hc hc'
   exact hr.hp.rinj j j' ob ob' c (hrl j ob c hj hc).2 (hrl j' ob' c hj' hc').2 hc hc'
 · intro j ob b q hj ho hb
   rcases hlk j ob hj with ⟨e1, _⟩ | ⟨_, hj⟩
   · rw [e1] at hb ⊢; exact hr.own id o b q hl hown hb
   · exact hr.own j ob b q hj ho hb
 · intro b hb
   rcases (hΦ' b).1 hb with h | h | ⟨_, q, h⟩
   · exact hr.fro b h
   · exact .inr (hr.rown id o b hl h)
   · exact .inr (hr.mine hh hl hown h)
 · intro j ob c hj hc
   exact hr.rown j ob c (hrl j ob c hj hc).2 hc
theorem RowV_VC {e : CT} {v : Value} {row : List e.denote} {Φ' : Nat → Prop} (h : RowV w Φ e v row) (hc : ∀ c, PtB v c → Φ' c) (hs : ∀ b, Φ b → Φ' b) : VC w Φ' (.list e) row [v] := by
 rcases h with ⟨⟨z, h1⟩, h2⟩ | ⟨c, o, cap, h1, h2, h3, h4, h5, h6, h7, h8⟩
 · subst h1; subst h2; exact ⟨z, 0, rfl, Nat.le_refl _, .inl rfl⟩
 · refine ⟨_, cap, by rw [h1], h3, .inr ⟨c, o, rfl, hc c ⟨o, _, cap, h1, h2⟩, fun i x hx => ?_⟩⟩
   obtain ⟨us, k1, k2⟩ := h8 i x hx
   exact ⟨us, k1, VC_mono (fun _ _ => rfl) hs _ _ _ k2⟩
theorem Rel.freezeR (hr : Rel w0 Φ0 own0 N w Φ β s a) {id : Nat} {e : CT} {l : List (List e.denote)} (hl : look s.heap id = some (.rows e l none)) (hh : s.held id = false) :
  ∃ Φ', Rel w0 Φ0 own0 N w Φ' β (s.put id (.frz (.list e) l)) a ∧ Mono w Φ β s.heap w Φ' β (s.put id (.frz (.list e) l)).heap := by
 obtain ⟨b, o, hs, h1, h2, h3, h4, h5⟩ := hr.hp.ob id _ hl
 let Φ' : Nat → Prop := fun b => Φ b ∨ RowB w β id (.rows e l none) b ∨ ((SObj.frz (.list e) l).owned = false ∧ ∃ p, β id = some (some (b, p)))
 refine ⟨Φ', hr.freezeO (o' := .frz (.list e) l) rfl rfl hl hh rfl (fun _ => Iff.rfl) (.inr ⟨b, o, h1, .inr (.inr ⟨rfl, o, h1⟩), fun i x hx => ?_⟩)⟩
 rw [nth_getElem?] at hx
 have hi := (List.getElem?_eq_some_iff.1 hx).1
 have hlt : i < hs.length := by have := h5.len; omega
 obtain ⟨v, hv⟩ : ∃ v, hs[i]? = some v := ⟨_, List.getElem?_eq_getElem hlt⟩
 refine ⟨[v], ⟨by have := cellsAt_get hs o b h4 i _ hv; simpa [CT.size] using this, trivial⟩, ?_⟩
 exact RowV_VC (h5.row i _ x hv hx (by simp)) (fun c hc => .inr (.inl ⟨hs, none, ⟨rfl, h5.len, b, o, h1, h4⟩, i, _, hv, by simp, hc⟩)) (fun b h => .inl h)
theorem ent_of {k e : CT} {Φ' : Nat → Prop} (hs : ∀ b, Φ b → Φ' b) : ∀ (l : List (k.denote × List e.denote)) (es : List MapEntry), KeysR w Φ k (l.map (·.1)) es → (∀ (i : Nat) (v : Value) (r : List e.denote), (es.map (·.val))[i]? = some v → ((l.map (·.2)) : List (List e.denote))[i]? = some r → VC w Φ' (.list e) r [v]) → EntR w Φ' k (.list e) false l es
 | [], es, h, _ => h
 | x :: r, es, ⟨en, es', e1, e2, e5⟩, hv => by
   subst e1
   refine ⟨en, es', rfl, VC_mono (fun _ _ => rfl) hs _ _ _ e2, ⟨[en.val], hv 0 en.val x.2 rfl rfl, rfl⟩, ent_of hs r es' e5 (fun i v q h1 h2 => hv (i + 1) v q (by simpa using h1) (by simpa using h2))⟩
theorem Rel.freezeM (hr : Rel w0 Φ0 own0 N w Φ β s a) {id : Nat} {k e : CT} {l : List (k.denote × List e.denote)} (hl : look s.heap id = some (.mrows k e l none)) (hh : s.held id = false) :
  ∃ Φ', Rel w0 Φ0 own0 N w Φ' β (s.put id (.map k (.list e) false l)) a ∧ Mono w Φ β s.heap w Φ' β (s.put id (.map k (.list e) false l)).heap := by
 obtain ⟨b, es, cl, h1, h2, h3, h4, h5, h6⟩ := hr.hp.ob id _ hl
 let Φ' : Nat → Prop := fun b => Φ b ∨ RowB w β id (.mrows k e l none) b ∨ ((SObj.map k (.list e) false l).owned = false ∧ ∃ p, β id = some (some (b, p)))
 refine ⟨Φ', hr.freezeO (o' := .map k (.list e) false l) rfl rfl hl hh rfl (fun _ => Iff.rfl) ⟨b, es, cl, h1, ?_, h3, ?_, h5⟩⟩
 · rintro (h | h | ⟨h, _⟩)
   · exact h2 h
   · exact (hr.hp.rin id _ b hl h).2.2 id _ 0 hl rfl h1
   · cases h
 · refine ent_of (Φ := Φ) (fun b h => .inl h) l es.toList h4 fun i v r hv hx => ?_
   exact RowV_VC (h6.row i v r hv hx (by simp)) (fun c hc => .inr (.inl ⟨_, none, ⟨rfl, b, es, cl, h1, h3, rfl⟩, i, v, hv, by simp, hc⟩)) (fun b h => .inl h)
theorem pack1_sound (hr : Rel w0 Φ0 own0 N w Φ β s a) {t : CT} {l : Leaf} {v : Value} {x : t.denote} {s' : St} (hv : LfR w Φ β s.heap l v) (h : pack1 t l s = some (x, s')) :
  ∃ Φ', Rel w0 Φ0 own0 N w Φ' β s' a ∧ Packed w Φ β s Φ' s' ∧ VC w Φ' t x [v] := by
 unfold pack1 at h
 split at h
 · rename_i k k' y
   split at h
   · rename_i hk; cases h; subst hk; exact ⟨Φ, hr, .refl .., by rw [show v = _ from hv]; rfl⟩
   · cases h
 · cases h; exact ⟨Φ, hr, .refl .., by rw [show v = _ from hv]; rfl⟩
 · cases h; obtain ⟨sx, e1, e2⟩ := hv; exact ⟨Φ, hr, .refl .., sx, by rw [e1], e2⟩
 · rename_i e e' l'
   split at h
   · rename_i he; subst he; cases h; exact ⟨Φ, hr, .refl .., hv⟩
   · cases h
 · rename_i e e' l'
   split at h
   · rename_i he; subst he; cases h; exact ⟨Φ, hr, .refl .., hv.1⟩
   · cases h
 · cases h; exact ⟨Φ, hr, .refl .., none, 0, by rw [show v = _ from hv]; rfl, Nat.le_refl _, .inl rfl⟩
 · rename_i e id rr
   obtain ⟨loc, hloc, _, hs⟩ := hv
   split at h
   · rename_i e' l' hl
     split at h
     case isFalse => cases h
     rename_i he; subst he
     cases hh : s.held id with
     | true => rw [hh] at h; cases h
     | false =>
     rw [hh] at h; cases h
     obtain ⟨Φ', h1, h2, h3⟩ := hr.freeze hl hh
     refine ⟨Φ', h1, h2, row_VC (hs _ _ (by rw [hl]; rfl)) fun b o hb => h3 b o (by rw [hloc, hb])⟩
   · rename_i e' l' hl
     split at h
     case isFalse => cases h
     rename_i he; subst he; cases h
     refine ⟨Φ, hr, .refl .., row_VC (hs _ _ (by rw [hl]; rfl)) fun b o hb => ?_⟩
     rcases hr.hp.ob id _ hl with ⟨h1, _⟩ | ⟨b', o', h1, h2, h4⟩
     · rw [hloc, hb] at h1; cases h1
     · rw [hloc, hb] at h1; cases h1; exact ⟨h2, h4⟩
   · cases h
 · cases h
theorem packL_sound : ∀ {t : CT} {ls : List Leaf} {vs : List Value} {Φ : Nat → Prop} {s : St} {x : t.denote} {s' : St}, Rel w0 Φ0 own0 N w Φ β s a → LfRs w Φ β s.heap ls vs → packL t ls s = some (x, s') →
  ∃ Φ', Rel w0 Φ0 own0 N w Φ' β s' a ∧ Packed w Φ β s Φ' s' ∧ VC w Φ' t x vs
 | .prod p q, [], vs, Φ, s, x, s', hr, hv, h => by simp [packL] at h
 | .prod p q, l :: ls, vs, Φ, s, x, s', hr, ⟨v, vs', e, h1, h2⟩, h => by
   subst e
   simp only [packL] at h
   split at h
   case h_2 => cases h
   rename_i y s1 hy
   split at h
   case h_2 => cases h
   rename_i z s2 hz
   cases h
   obtain ⟨Φ1, g1, g2, g3⟩ := pack1_sound hr h1 hy
   obtain ⟨Φ2, k1, k2, k3⟩ := packL_sound g1 (LfRs_mono g2.mono _ _ h2) hz
   exact ⟨Φ2, k1, g2.trans k2, v, vs', rfl, VC_mono k2.mono.frz k2.mono.sub _ _ _ g3, k3⟩
 | .unit, ls, vs, Φ, s, x, s', hr, hv, h => by
   cases ls with
   | nil => simp [packL] at h; obtain ⟨rfl, rfl⟩ := h; exact ⟨Φ, hr, .refl .., hv⟩
   | cons l ls => simp [packL] at h
 | .int k, ls, vs, Φ, s, x, s', hr, hv, h => by
   match ls, hv with
   | [], _ => simp [packL] at h
   | [l], ⟨v, vs', e, h1, h2⟩ => cases h2; subst e; exact pack1_sound hr h1 h
   | _ :: _ :: _, _ => simp [packL] at h
 | .bool, ls, vs, Φ, s, x, s', hr, hv, h => by
   match ls, hv with
   | [], _ => simp [packL] at h
   | [l], ⟨v, vs', e, h1, h2⟩ => cases h2; subst e; exact pack1_sound hr h1 h
   | _ :: _ :: _, _ => simp [packL] at h
 | .str, ls, vs, Φ, s, x, s', hr, hv, h => by
   match ls, hv with
   | [], _ => simp [packL] at h
   | [l], ⟨v, vs', e, h1, h2⟩ => cases h2; subst e; exact pack1_sound hr h1 h
   | _ :: _ :: _, _ => simp [packL] at h
 | .list e, ls, vs, Φ, s, x, s', hr, hv, h => by
   match ls, hv with
   | [], _ => simp [packL] at h
   | [l], ⟨v, vs', e, h1, h2⟩ => cases h2; subst e; exact pack1_sound hr h1 h
   | _ :: _ :: _, _ => simp [packL] at h
 | .sum _ _, ls, vs, Φ, s, x, s', hr, hv, h => by simp [packL] at h
end
end Go.Bm
