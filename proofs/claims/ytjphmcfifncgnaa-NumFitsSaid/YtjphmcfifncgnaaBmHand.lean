/-
  OUR OWN: what is handed over at a call, and taken up: data of a shape, a value, and the blocks that it owns.
-/
import Derived.Test.YtjphmcfifncgnaaBmStep8
namespace Go.Bm
set_option linter.unusedVariables false
set_option linter.unusedSimpArgs false

def CellV (w : World) (Φ : Nat → Prop) : (x : Cell) → x.ct.denote → Value → List Nat → Prop
  | .pl t, d, v, bs => VC w Φ t d [v] ∧ bs = []
  | .own e, l, v, bs => (v = .slice none 0 0 ∧ l = ([] : List e.denote) ∧ bs = []) ∨ ∃ b o cap, v = .slice (some ⟨b, o, none⟩) (List.length (α := e.denote) l) cap ∧ (List.length (α := e.denote) l) ≤ cap ∧ bs = [b] ∧ ¬ Φ b ∧ b < w.heap.size ∧
      (∀ i, w.frozen? ⟨b, i, none⟩ = false) ∧ RowAt w Φ e b o l ∧ o + cap * e.size = blockSize w b ∧ 0 < e.size

def CellsV (w : World) (Φ : Nat → Prop) : (xs : List Cell) → (prods (cellCts xs)).denote → List Value → List Nat → Prop
  | [], _, vs, bs => vs = [] ∧ bs = []
  | x :: r, d, vs, bs => ∃ v vs' b1 b2, vs = v :: vs' ∧ bs = b1 ++ b2 ∧ CellV w Φ x (headD x.ct (cellCts r) d) v b1 ∧ CellsV w Φ r (tailD x.ct (cellCts r) d) vs' b2

def ShV (w : World) (Φ : Nat → Prop) (all : List Value) : (x : Sh) → x.ct.denote → Value → List Nat → Prop
  | .c x, d, v, bs => CellV w Φ x d v bs
  | .agg t, d, v, bs => bs = [] ∧ ∃ vs, v = .agg vs ∧ VC w Φ t d vs.toList
  | .ptr xs, d, v, bs => ∃ b vs bs', v = .pointer (some ⟨b, 0, none⟩) ∧ bs = b :: bs' ∧ ¬ Φ b ∧ b < w.heap.size ∧ (∀ i, w.frozen? ⟨b, i, none⟩ = false) ∧ cellsAt w b 0 vs ∧ CellsV w Φ xs d vs bs'
  | .same j, _, v, bs => all[j]? = some v ∧ bs = []

def ShVs (w : World) (Φ : Nat → Prop) (all : List Value) : (xs : List Sh) → (prods (shCts xs)).denote → List Value → List Nat → Prop
  | [], _, vs, bs => vs = [] ∧ bs = []
  | x :: r, d, vs, bs => ∃ v vs' b1 b2, vs = v :: vs' ∧ bs = b1 ++ b2 ∧ ShV w Φ all x (headD x.ct (shCts r) d) v b1 ∧ ShVs w Φ all r (tailD x.ct (shCts r) d) vs' b2

theorem headD_consD (a : CT) (l : List CT) (x : a.denote) (y : (prods l).denote) : headD a l (consD a l x y) = x := by cases l <;> rfl
theorem tailD_consD (a : CT) (l : List CT) (x : a.denote) (y : (prods l).denote) : tailD a l (consD a l x y) = y := by
  cases l with
  | nil => rfl
  | cons b l => rfl

section
variable {P : Program} {w0 : World} {Φ0 own0 : Nat → Prop} {N : Frm} {w w' : World} {Φ Φ' : Nat → Prop} {β : Loc} {s s' : St} {a : Act}

/-- The blocks that the state's objects own. -/
def Own (β : Loc) (s : St) (b : Nat) : Prop := ∃ id ob p, look s.heap id = some ob ∧ ob.owned = true ∧ β id = some (some (b, p))

theorem CellV_mono (h1 : ∀ b, Φ b → w'.heap[b]? = w.heap[b]?) (h2 : ∀ b, Φ b → Φ' b) (h3 : w.heap.size ≤ w'.heap.size) : ∀ (x : Cell) (d : x.ct.denote) (v : Value) (bs : List Nat),
    (∀ b, b ∈ bs → w'.heap[b]? = w.heap[b]? ∧ ¬ Φ' b) → CellV w Φ x d v bs → CellV w' Φ' x d v bs
  | .pl t, d, v, bs, _, ⟨g1, g2⟩ => ⟨VC_mono h1 h2 _ _ _ g1, g2⟩
  | .own e, l, v, bs, hb, g => by
    rcases g with g | ⟨b, o, cap, g1, g2, g3, g4, g5, g6, g7, g8, g9⟩
    · exact .inl g
    · subst g3
      obtain ⟨k1, k2⟩ := hb b (by simp)
      refine .inr ⟨b, o, cap, g1, g2, rfl, k2, by omega, fun i => by rw [World.frozen?_of_block (w := w) k1]; exact g6 i, fun i x hx => ?_, by unfold blockSize; rw [k1]; exact g8, g9⟩
      obtain ⟨us, u1, u2⟩ := g7 i x hx
      exact ⟨us, cellsAt_of_heap k1 _ _ u1, VC_mono h1 h2 _ _ _ u2⟩

theorem CellsV_mono (h1 : ∀ b, Φ b → w'.heap[b]? = w.heap[b]?) (h2 : ∀ b, Φ b → Φ' b) (h3 : w.heap.size ≤ w'.heap.size) : ∀ (xs : List Cell) (d : (prods (cellCts xs)).denote) (vs : List Value) (bs : List Nat),
    (∀ b, b ∈ bs → w'.heap[b]? = w.heap[b]? ∧ ¬ Φ' b) → CellsV w Φ xs d vs bs → CellsV w' Φ' xs d vs bs
  | [], _, _, _, _, h => h
  | x :: r, d, vs, bs, hb, ⟨v, vs', b1, b2, e1, e2, g1, g2⟩ => by
    subst e2
    exact ⟨v, vs', b1, b2, e1, rfl, CellV_mono h1 h2 h3 _ _ _ _ (fun b h => hb b (List.mem_append_left _ h)) g1, CellsV_mono h1 h2 h3 r _ _ _ (fun b h => hb b (List.mem_append_right _ h)) g2⟩

theorem ShV_mono {all : List Value} (h1 : ∀ b, Φ b → w'.heap[b]? = w.heap[b]?) (h2 : ∀ b, Φ b → Φ' b) (h3 : w.heap.size ≤ w'.heap.size) : ∀ (x : Sh) (d : x.ct.denote) (v : Value) (bs : List Nat),
    (∀ b, b ∈ bs → w'.heap[b]? = w.heap[b]? ∧ ¬ Φ' b) → ShV w Φ all x d v bs → ShV w' Φ' all x d v bs
  | .c x, d, v, bs, hb, g => CellV_mono h1 h2 h3 x d v bs hb g
  | .agg t, d, v, bs, hb, ⟨g1, vs, g2, g3⟩ => ⟨g1, vs, g2, VC_mono h1 h2 _ _ _ g3⟩
  | .ptr xs, d, v, bs, hb, ⟨b, vs, bs', g1, g2, g3, g4, g5, g6, g7⟩ => by
    subst g2
    obtain ⟨k1, k2⟩ := hb b (by simp)
    exact ⟨b, vs, bs', g1, rfl, k2, by omega, fun i => by rw [World.frozen?_of_block (w := w) k1]; exact g5 i, cellsAt_of_heap k1 _ _ g6, CellsV_mono h1 h2 h3 xs d vs bs' (fun b h => hb b (List.mem_cons_of_mem _ h)) g7⟩
  | .same _, _, _, _, _, h => h

/-- What was taken out of a state. -/
structure Took (w : World) (Φ : Nat → Prop) (β : Loc) (s : St) (Φ' : Nat → Prop) (s' : St) (bs : List Nat) : Prop where
  mono : Mono w Φ β s.heap w Φ' β s'.heap
  env : s'.env = s.env
  next : s'.next = s.next
  own : ∀ id ob, look s'.heap id = some ob → ob.owned = true → look s.heap id = some ob
  mem : ∀ b, b ∈ bs → Own β s b
  out : ∀ b, b ∈ bs → ¬ Own β s' b
  fro : ∀ b, Φ' b → Φ b ∨ (Own β s b ∧ ¬ Own β s' b)
  nodup : bs.Nodup
  nf : ∀ b, b ∈ bs → ¬ Φ' b

theorem Took.ownle {bs : List Nat} (h : Took w Φ β s Φ' s' bs) {b : Nat} (hb : Own β s' b) : Own β s b :=
  let ⟨id, ob, p, h1, h2, h3⟩ := hb
  ⟨id, ob, p, h.own id ob h1 h2, h2, h3⟩

theorem Took.trans {bs bs' : List Nat} {Φ'' : Nat → Prop} {s'' : St} (h : Took w Φ β s Φ' s' bs) (k : Took w Φ' β s' Φ'' s'' bs') : Took w Φ β s Φ'' s'' (bs ++ bs') := by
  refine ⟨h.mono.trans k.mono, k.env.trans h.env, k.next.trans h.next, fun id ob h1 h2 => h.own id ob (k.own id ob h1 h2) h2, ?_, ?_, ?_, ?_, ?_⟩
  · intro b hb
    rcases List.mem_append.1 hb with hb | hb
    · exact h.mem b hb
    · exact h.ownle (k.mem b hb)
  · intro b hb ho
    rcases List.mem_append.1 hb with hb | hb
    · exact h.out b hb (k.ownle ho)
    · exact k.out b hb ho
  · intro b hb
    rcases k.fro b hb with g | ⟨g1, g2⟩
    · rcases h.fro b g with g | ⟨g1, g2⟩
      · exact .inl g
      · exact .inr ⟨g1, fun ho => g2 (k.ownle ho)⟩
    · exact .inr ⟨h.ownle g1, g2⟩
  · rw [List.nodup_append]
    exact ⟨h.nodup, k.nodup, fun x hx y hy e => by subst e; exact h.out x hx (k.mem x hy)⟩
  · intro b hb hf
    rcases List.mem_append.1 hb with hb | hb
    · rcases k.fro b hf with g | ⟨g, _⟩
      · exact h.nf b hb g
      · exact h.out b hb g
    · exact k.nf b hb hf

theorem Took.refl (w : World) (Φ : Nat → Prop) (β : Loc) (s : St) : Took w Φ β s Φ s [] :=
  ⟨(Packed.refl w Φ β s).mono, rfl, rfl, fun _ _ h _ => h, fun _ h => by (cases h), fun _ h => by (cases h), fun _ h => .inl h, List.nodup_nil, fun _ h => by (cases h)⟩

/-- What packing plain data takes. -/
theorem pack1_took (hr : Rel w0 Φ0 own0 N w Φ β s a) {t : CT} {l : Leaf} {v : Value} {x : t.denote} {s' : St} (hv : LfR w Φ β s.heap l v) (h : pack1 t l s = some (x, s')) :
    ∃ Φ', Rel w0 Φ0 own0 N w Φ' β s' a ∧ Took w Φ β s Φ' s' [] ∧ VC w Φ' t x [v] := by
  unfold pack1 at h
  split at h
  · rename_i k k' y
    split at h
    · rename_i hk; cases h; subst hk; exact ⟨Φ, hr, .refl .., by rw [show v = _ from hv]; rfl⟩
    · cases h
  · cases h; exact ⟨Φ, hr, .refl .., by rw [show v = _ from hv]; rfl⟩
  · cases h; obtain ⟨sx, e1, e2⟩ := hv; exact ⟨Φ, hr, .refl .., sx, by rw [e1], e2⟩
  · rename_i e e' l'
    split at h
    · rename_i he; subst he; cases h; exact ⟨Φ, hr, .refl .., hv⟩
    · cases h
  · cases h; exact ⟨Φ, hr, .refl .., none, 0, by rw [show v = _ from hv]; rfl, Nat.le_refl _, .inl rfl⟩
  · rename_i e id rr
    obtain ⟨loc, hloc, _, hs⟩ := hv
    split at h
    · rename_i e' l' hl
      split at h
      case isFalse => cases h
      rename_i he; subst he; cases h
      let Φ' : Nat → Prop := fun b => Φ b ∨ ∃ p, β id = some (some (b, p))
      have hsub : ∀ b, Φ b → Φ' b := fun b h => .inl h
      have hrow : ∀ b o, β id = some (some (b, o)) → Φ' b ∧ RowAt w Φ' e' b o l' := by
        intro b o hb
        refine ⟨.inr ⟨o, hb⟩, ?_⟩
        rcases hr.hp.ob id _ hl with ⟨h1, _⟩ | ⟨b', o', h1, _, _, h4⟩
        · rw [hb] at h1; cases h1
        · rw [hb] at h1; cases h1
          intro i x hx
          obtain ⟨us, hu, hv⟩ := h4 i x hx
          exact ⟨us, hu, VC_mono (fun _ _ => rfl) hsub _ _ _ hv⟩
      have hRel : Rel w0 Φ0 own0 N w Φ' β (s.put id (.frz e' l')) a := by
        refine hr.turn hl (.inl rfl) w Φ' hr.same rfl hsub ?_ (fun _ _ _ => rfl) (fun _ _ => rfl) (fun _ _ => rfl) (.inl rfl) ?_
        · intro b hb
          rcases hb with hb | hb
          · exact .inl hb
          · exact .inr ⟨rfl, rfl, hb⟩
        · rcases hr.hp.ob id _ hl with ⟨h1, h2⟩ | ⟨b', o', h1, _, _, h4⟩
          · exact .inl ⟨h1, h2⟩
          · exact .inr ⟨b', o', h1, (hrow b' o' h1).1, (hrow b' o' h1).2⟩
      have hlk : ∀ j ob, look (s.put id (.frz e' l')).heap j = some ob → ob.owned = true → j ≠ id ∧ look s.heap j = some ob := by
        intro j ob hj ho
        simp only [St.put, look_cons] at hj
        split at hj
        · cases hj; cases ho
        · rename_i hne; exact ⟨fun e => hne e.symm, hj⟩
      refine ⟨Φ', hRel, ⟨⟨fun _ _ => rfl, hsub, fun _ _ h => h, ?_, fun _ _ _ _ _ _ => rfl⟩, rfl, rfl, fun j ob hj ho => (hlk j ob hj ho).2, fun _ h => by (cases h), fun _ h => by (cases h), ?_, List.nodup_nil, fun _ h => by (cases h)⟩, row_VC (hs _ _ (by rw [hl]; rfl)) fun b o hb => hrow b o (by rw [hloc, hb])⟩
      · intro j x hx r hrr
        simp only [St.put, look_cons] at hrr
        split at hrr
        · rename_i e'; subst e'; rw [hl]; exact hrr
        · exact hrr
      · intro b hb
        rcases hb with hb | ⟨p, hb⟩
        · exact .inl hb
        · refine .inr ⟨⟨id, _, p, hl, rfl, hb⟩, ?_⟩
          rintro ⟨j, ob, q, g1, g2, g3⟩
          obtain ⟨g4, g5⟩ := hlk j ob g1 g2
          exact g4 (hr.hp.inj j id ob _ b q p g5 hl g2 rfl g3 hb)
    · rename_i e' l' hl
      split at h
      case isFalse => cases h
      rename_i he; subst he; cases h
      refine ⟨Φ, hr, .refl .., row_VC (hs _ _ (by rw [hl]; rfl)) fun b o hb => ?_⟩
      rcases hr.hp.ob id _ hl with ⟨h1, _⟩ | ⟨b', o', h1, h2, h4⟩
      · rw [hloc, hb] at h1; cases h1
      · rw [hloc, hb] at h1; cases h1; exact ⟨h2, h4⟩
    · cases h
  · cases h

theorem packL_took : ∀ {t : CT} {ls : List Leaf} {vs : List Value} {Φ : Nat → Prop} {s : St} {x : t.denote} {s' : St}, Rel w0 Φ0 own0 N w Φ β s a → LfRs w Φ β s.heap ls vs → packL t ls s = some (x, s') →
    ∃ Φ', Rel w0 Φ0 own0 N w Φ' β s' a ∧ Took w Φ β s Φ' s' [] ∧ VC w Φ' t x vs
  | .prod p q, [], vs, Φ, s, x, s', hr, hv, h => by simp [packL] at h
  | .prod p q, l :: ls, vs, Φ, s, x, s', hr, ⟨v, vs', e, h1, h2⟩, h => by
    subst e
    simp only [packL] at h
    split at h
    case h_2 => cases h
    rename_i y s1 hy
    split at h
    case h_2 => cases h
    rename_i z s2 hz
    cases h
    obtain ⟨Φ1, g1, g2, g3⟩ := pack1_took hr h1 hy
    obtain ⟨Φ2, k1, k2, k3⟩ := packL_took g1 (LfRs_mono g2.mono _ _ h2) hz
    exact ⟨Φ2, k1, g2.trans k2, v, vs', rfl, VC_mono k2.mono.frz k2.mono.sub _ _ _ g3, k3⟩
  | .unit, ls, vs, Φ, s, x, s', hr, hv, h => by
    cases ls with
    | nil => simp [packL] at h; obtain ⟨rfl, rfl⟩ := h; exact ⟨Φ, hr, .refl .., hv⟩
    | cons l ls => simp [packL] at h
  | .int k, ls, vs, Φ, s, x, s', hr, hv, h => by
    match ls, hv with
    | [], _ => simp [packL] at h
    | [l], ⟨v, vs', e, h1, h2⟩ => cases h2; subst e; exact pack1_took hr h1 h
    | _ :: _ :: _, _ => simp [packL] at h
  | .bool, ls, vs, Φ, s, x, s', hr, hv, h => by
    match ls, hv with
    | [], _ => simp [packL] at h
    | [l], ⟨v, vs', e, h1, h2⟩ => cases h2; subst e; exact pack1_took hr h1 h
    | _ :: _ :: _, _ => simp [packL] at h
  | .str, ls, vs, Φ, s, x, s', hr, hv, h => by
    match ls, hv with
    | [], _ => simp [packL] at h
    | [l], ⟨v, vs', e, h1, h2⟩ => cases h2; subst e; exact pack1_took hr h1 h
    | _ :: _ :: _, _ => simp [packL] at h
  | .list e, ls, vs, Φ, s, x, s', hr, hv, h => by
    match ls, hv with
    | [], _ => simp [packL] at h
    | [l], ⟨v, vs', e, h1, h2⟩ => cases h2; subst e; exact pack1_took hr h1 h
    | _ :: _ :: _, _ => simp [packL] at h
  | .sum _ _, ls, vs, Φ, s, x, s', hr, hv, h => by simp [packL] at h

/-- An object that is given away. -/
theorem give_took (hr : Rel w0 Φ0 own0 N w Φ β s a) {id : Nat} {ob : SObj} (hl : look s.heap id = some ob) (hown : ob.owned = true) (bs : List Nat) (hbs : ∀ b, b ∈ bs ↔ ∃ p, β id = some (some (b, p))) (hnd : bs.Nodup) (hnf : ∀ b, b ∈ bs → ¬ Φ b) :
    Took w Φ β s Φ (s.put id .dead) bs := by
  have hlk : ∀ j ob', look (s.put id .dead).heap j = some ob' → ob'.owned = true → j ≠ id ∧ look s.heap j = some ob' := by
    intro j ob' hj ho
    simp only [St.put, look_cons] at hj
    split at hj
    · cases hj; cases ho
    · rename_i hne; exact ⟨fun e => hne e.symm, hj⟩
  refine ⟨⟨fun _ _ => rfl, fun _ h => h, fun _ _ h => h, ?_, fun _ _ _ _ _ _ => rfl⟩, rfl, rfl, fun j ob' hj ho => (hlk j ob' hj ho).2, ?_, ?_, fun _ h => .inl h, hnd, hnf⟩
  · intro j x hx r hrr
    simp only [St.put, look_cons] at hrr
    split at hrr
    · cases hrr
    · exact hrr
  · intro b hb
    obtain ⟨p, hp⟩ := (hbs b).1 hb
    exact ⟨id, ob, p, hl, hown, hp⟩
  · rintro b hb ⟨j, ob', q, g1, g2, g3⟩
    obtain ⟨p, hp⟩ := (hbs b).1 hb
    obtain ⟨g4, g5⟩ := hlk j ob' g1 g2
    exact g4 (hr.hp.inj j id ob' ob b q p g5 hl g2 hown g3 hp)

theorem packCell_sound (hr : Rel w0 Φ0 own0 N w Φ β s a) {x : Cell} {l : Leaf} {v : Value} {d : x.ct.denote} {s' : St} (hv : LfR w Φ β s.heap l v) (h : packCell x l s = some (d, s')) :
    ∃ Φ' bs, Rel w0 Φ0 own0 N w Φ' β s' a ∧ Took w Φ β s Φ' s' bs ∧ CellV w Φ' x d v bs := by
  cases x with
  | pl t =>
    obtain ⟨Φ', g1, g2, g3⟩ := pack1_took hr hv h
    exact ⟨Φ', [], g1, g2, g3, rfl⟩
  | own e =>
  have h' : packOwn e l s = some (d, s') := h
  clear h
  unfold packOwn at h'
  split at h'
  · cases h'; exact ⟨Φ, [], hr, .refl .., .inl ⟨hv, rfl, rfl⟩⟩
  · rename_i id
    replace h := h'
    clear h'
    split at h
    case h_2 => cases h
    rename_i e' l' hl
    split at h
    case isFalse => cases h
    rename_i he; subst he; cases h
    obtain ⟨loc, hloc, _, hs⟩ := hv
    have hsl := hs _ _ (by rw [hl]; rfl)
    cases loc with
    | none =>
      obtain ⟨e1, e2, _⟩ := hsl
      refine ⟨Φ, [], hr.give hl rfl, give_took hr hl rfl [] (fun b => ⟨fun h => (by cases h), fun ⟨p, hp⟩ => by rw [hloc] at hp; cases hp⟩) List.nodup_nil (fun _ h => by (cases h)), .inl ⟨e1, List.eq_nil_of_length_eq_zero e2, rfl⟩⟩
    | some bo =>
      obtain ⟨b, o⟩ := bo
      obtain ⟨o', cap, e1, e2, e3, e4, e5, e6⟩ := hsl
      obtain ⟨e7, e8, e9⟩ := e6 rfl
      subst e7
      rcases hr.hp.ob id _ hl with ⟨h3, _⟩ | ⟨b', p', h3, hnΦ, hfz, hrow⟩
      · rw [hloc] at h3; cases h3
      · rw [hloc] at h3; cases h3
        refine ⟨Φ, [b], hr.give hl rfl, give_took hr hl rfl [b] (fun c => ⟨fun h => ⟨o', by simp at h; subst h; exact hloc⟩, fun ⟨p, hp⟩ => by rw [hloc] at hp; cases hp; simp⟩) (by simp) (fun c h => by simp at h; subst h; exact hnΦ),
          .inr ⟨b, o', cap, e1, e2, rfl, hnΦ, hr.hp.blt _ _ _ hloc, hfz, hrow, e8, e9⟩⟩
  · cases h'

theorem packCells_sound : ∀ {xs : List Cell} {ls : List Leaf} {vs : List Value} {Φ : Nat → Prop} {s s' : St} {d : (prods (cellCts xs)).denote}, Rel w0 Φ0 own0 N w Φ β s a → LfRs w Φ β s.heap ls vs → packCells xs ls s = some (d, s') →
    ∃ Φ' bs, Rel w0 Φ0 own0 N w Φ' β s' a ∧ Took w Φ β s Φ' s' bs ∧ CellsV w Φ' xs d vs bs
  | [], ls, vs, Φ, s, s', d, hr, hv, h => by
    cases ls with
    | nil => simp [packCells] at h; obtain ⟨rfl, rfl⟩ := h; exact ⟨Φ, [], hr, .refl .., hv, rfl⟩
    | cons l ls => simp [packCells] at h
  | x :: r, [], vs, Φ, s, s', d, hr, hv, h => by simp [packCells] at h
  | x :: r, l :: ls, vs, Φ, s, s', d, hr, ⟨v, vs', e, h1, h2⟩, h => by
    subst e
    simp only [packCells] at h
    split at h
    case h_2 => cases h
    rename_i y s1 hy
    split at h
    case h_2 => cases h
    rename_i z s2 hz
    cases h
    obtain ⟨Φ1, b1, g1, g2, g3⟩ := packCell_sound hr h1 hy
    obtain ⟨Φ2, b2, k1, k2, k3⟩ := packCells_sound g1 (LfRs_mono g2.mono _ _ h2) hz
    have ht := g2.trans k2
    refine ⟨Φ2, b1 ++ b2, k1, ht, v, vs', b1, b2, rfl, rfl, ?_, by rw [tailD_consD]; exact k3⟩
    rw [headD_consD]
    exact CellV_mono k2.mono.frz k2.mono.sub (Nat.le_refl _) _ _ _ _ (fun b hb => ⟨rfl, ht.nf b (List.mem_append_left _ hb)⟩) g3

/-- A slot that is the same as another one holds the same value. -/
def SameAt (al : List Value) : Sh → Value → Prop
  | .same j, u => al[j]? = some u
  | _, _ => True

theorem packSh_sound (hr : Rel w0 Φ0 own0 N w Φ β s a) {al : List Value} {x : Sh} {sv : SVal} {v : Value} {d : x.ct.denote} {s' : St} {ids : List Nat} (hv : SVR w Φ β s.heap sv v) (hsame : SameAt al x v) (h : packSh x sv s = some (d, s', ids)) :
    ∃ Φ' bs, Rel w0 Φ0 own0 N w Φ' β s' a ∧ Took w Φ β s Φ' s' bs ∧ ShV w Φ' al x d v bs := by
  cases x with
  | c x =>
    simp only [packSh] at h
    split at h
    case h_2 => cases h
    split at h
    case h_2 => cases h
    rename_i y s1 hy
    cases h
    exact packCell_sound hr hv hy
  | agg t =>
    simp only [packSh] at h
    split at h
    case h_2 => cases h
    split at h
    case h_2 => cases h
    rename_i y s1 hy
    cases h
    obtain ⟨vs, e, hl⟩ := hv
    obtain ⟨Φ', g1, g2, g3⟩ := packL_took hr hl hy
    exact ⟨Φ', [], g1, g2, rfl, vs, e, g3⟩
  | ptr xs =>
    simp only [packSh] at h
    split at h
    case h_2 => cases h
    rename_i id
    split at h
    case h_2 => cases h
    rename_i cs hl
    split at h
    case h_2 => cases h
    rename_i y s1 hy
    cases h
    obtain ⟨b, hb, ev⟩ := hv
    obtain ⟨b', vs, hb', hn, hfz, hc, hls⟩ := hr.hp.ob id _ hl
    rw [hb] at hb'; cases hb'
    have ht := give_took hr hl rfl [b] (fun c => ⟨fun h => ⟨0, by simp at h; subst h; exact hb⟩, fun ⟨p, hp⟩ => by rw [hb] at hp; cases hp; simp⟩) (by simp) (fun c h => by simp at h; subst h; exact hn)
    obtain ⟨Φ2, b2, k1, k2, k3⟩ := packCells_sound (hr.give hl rfl) (LfRs_mono ht.mono _ _ hls) hy
    have hT := ht.trans k2
    refine ⟨Φ2, b :: b2, k1, by simpa using hT, b, vs, b2, ev, rfl, hT.nf b (by simp), hr.hp.blt _ _ _ hb, hfz, hc, k3⟩
  | same j =>
    simp only [packSh] at h
    cases h
    exact ⟨Φ, [], hr, .refl .., hsame, rfl⟩

end
end Go.Bm
