/-
  OUR OWN: lists of slots, handed over and taken up.
-/
import Derived.Test.YtjphmcfifncgnaaBmHand
namespace Go.Bm
set_option linter.unusedVariables false
set_option linter.unusedSimpArgs false

section
variable {P : Program} {w0 : World} {Φ0 own0 : Nat → Prop} {N : Frm} {w w' : World} {Φ Φ' : Nat → Prop} {β : Loc} {s s' : St} {a : Act} {hp : List (Nat × SObj)}

def SameOk (all : List Value) : List Sh → List Value → Prop
  | x :: r, u :: us => SameAt all x u ∧ SameOk all r us
  | _, _ => True

theorem SVRs_nth : ∀ {l : List SVal} {v : List Value}, SVRs w Φ β hp l v → ∀ i x, nth l i = some x → ∃ u, v[i]? = some u ∧ SVR w Φ β hp x u
  | [], _, h, i, x, hx => by simp [nth] at hx
  | l :: ls, _, ⟨v, vs', e, h1, h2⟩, 0, x, hx => by subst e; simp [nth] at hx; subst hx; exact ⟨v, by simp, h1⟩
  | l :: ls, _, ⟨v, vs', e, h1, h2⟩, i + 1, x, hx => by subst e; simp [nth] at hx; simpa using SVRs_nth h2 i x hx

theorem SVRs_mono {w' : World} {Φ' : Nat → Prop} {β' : Loc} {hp' : List (Nat × SObj)} (m : Mono w Φ β hp w' Φ' β' hp') : ∀ {l : List SVal} {v : List Value}, SVRs w Φ β hp l v → SVRs w' Φ' β' hp' l v
  | [], _, h => h
  | l :: ls, _, ⟨v, vs', e, h1, h2⟩ => ⟨v, vs', e, SVR_mono m _ _ h1, SVRs_mono m h2⟩

theorem sameSl_eq (hr : Rel w0 Φ0 own0 N w Φ β s a) {x : Option SVal} {y : SVal} (h : sameSl s x y = true) {u v : Value} {z : SVal} (hx : x = some z) (hu : SVR w Φ β s.heap z u) (hv : SVR w Φ β s.heap y v) : u = v := by
  subst hx
  unfold sameSl at h
  split at h
  · rename_i i j heq
    cases heq
    simp only [Bool.and_eq_true] at h
    have hij := Nat.eq_of_beq_eq_true h.1
    subst hij
    have h2 := h.2
    split at h2
    case h_2 => cases h2
    rename_i e l hl
    obtain ⟨loc, hloc, _, hs⟩ := hu
    obtain ⟨loc', hloc', _, hs'⟩ := hv
    rw [hloc] at hloc'; cases hloc'
    have g := hs _ _ (by rw [hl]; rfl)
    have g' := hs' _ _ (by rw [hl]; rfl)
    cases loc with
    | none => obtain ⟨e1, _⟩ := g; obtain ⟨e2, _⟩ := g'; rw [e1, e2]
    | some bo =>
      obtain ⟨b, o⟩ := bo
      obtain ⟨o1, c1, e1, _, _, _, _, e6⟩ := g
      obtain ⟨o2, c2, f1, _, _, _, _, f6⟩ := g'
      obtain ⟨k1, k2, k3⟩ := e6 rfl
      obtain ⟨m1, m2, m3⟩ := f6 rfl
      have : c1 * e.size = c2 * e.size := by omega
      have := Nat.eq_of_mul_eq_mul_right k3 this
      rw [e1, f1, k1, m1, this]
  · rename_i i p j q heq
    cases heq
    simp only [Bool.and_eq_true] at h
    have h1 := Nat.eq_of_beq_eq_true h.1
    have h2 := Nat.eq_of_beq_eq_true h.2
    subst h1; subst h2
    obtain ⟨b, e1, e2⟩ := hu
    obtain ⟨b', f1, f2⟩ := hv
    rw [e1] at f1; cases f1
    rw [e2, f2]
  · cases h

theorem sameK_ok (hr : Rel w0 Φ0 own0 N w Φ β s a) {all : List SVal} {al : List Value} (hal : SVRs w Φ β s.heap all al) : ∀ (xs : List Sh) (vs : List SVal) (us : List Value), SVRs w Φ β s.heap vs us → sameK s all xs vs = true → SameOk al xs us
  | [], _, us, h, _ => by cases us <;> trivial
  | x :: xs, [], us, h, hk => by cases x <;> simp [sameK] at hk
  | .same j :: xs, v :: vs, us, ⟨u, us', e, h1, h2⟩, hk => by
    subst e
    simp only [sameK, Bool.and_eq_true] at hk
    refine ⟨?_, sameK_ok hr hal xs vs us' h2 hk.2⟩
    cases hn : nth all j with
    | none => rw [hn] at hk; simp [sameSl] at hk
    | some z =>
      obtain ⟨u', g1, g2⟩ := SVRs_nth hal j z hn
      show al[j]? = some u
      rw [g1, sameSl_eq hr hk.1 hn g2 h1]
  | .c x :: xs, v :: vs, us, ⟨u, us', e, h1, h2⟩, hk => by subst e; exact ⟨trivial, sameK_ok hr hal xs vs us' h2 hk⟩
  | .agg x :: xs, v :: vs, us, ⟨u, us', e, h1, h2⟩, hk => by subst e; exact ⟨trivial, sameK_ok hr hal xs vs us' h2 hk⟩
  | .ptr x :: xs, v :: vs, us, ⟨u, us', e, h1, h2⟩, hk => by subst e; exact ⟨trivial, sameK_ok hr hal xs vs us' h2 hk⟩

theorem packShs_sound {al : List Value} : ∀ {xs : List Sh} {vs : List SVal} {us : List Value} {Φ : Nat → Prop} {s s' : St} {d : (prods (shCts xs)).denote} {ids : List Nat}, Rel w0 Φ0 own0 N w Φ β s a → SVRs w Φ β s.heap vs us → SameOk al xs us → packShs xs vs s = some (d, s', ids) →
    ∃ Φ' bs, Rel w0 Φ0 own0 N w Φ' β s' a ∧ Took w Φ β s Φ' s' bs ∧ ShVs w Φ' al xs d us bs
  | [], vs, us, Φ, s, s', d, ids, hr, hv, hs, h => by
    cases vs with
    | nil => simp [packShs] at h; obtain ⟨rfl, rfl, rfl⟩ := h; exact ⟨Φ, [], hr, .refl .., hv, rfl⟩
    | cons l ls => simp [packShs] at h
  | x :: r, [], us, Φ, s, s', d, ids, hr, hv, hs, h => by simp [packShs] at h
  | x :: r, v :: vs, us, Φ, s, s', d, ids, hr, ⟨u, us', e, h1, h2⟩, hs, h => by
    subst e
    simp only [packShs] at h
    split at h
    case h_2 => cases h
    rename_i y s1 is hy
    split at h
    case h_2 => cases h
    rename_i z s2 js hz
    cases h
    obtain ⟨Φ1, b1, g1, g2, g3⟩ := packSh_sound hr h1 hs.1 hy
    obtain ⟨Φ2, b2, k1, k2, k3⟩ := packShs_sound g1 (SVRs_mono g2.mono h2) hs.2 hz
    have ht := g2.trans k2
    refine ⟨Φ2, b1 ++ b2, k1, ht, u, us', b1, b2, rfl, rfl, ?_, by rw [tailD_consD]; exact k3⟩
    rw [headD_consD]
    exact ShV_mono k2.mono.frz k2.mono.sub (Nat.le_refl _) _ _ _ _ (fun b hb => ⟨rfl, ht.nf b (List.mem_append_left _ hb)⟩) g3

theorem packAll_sound (hr : Rel w0 Φ0 own0 N w Φ β s a) {xs : List Sh} {vs : List SVal} {us : List Value} {d : (prods (shCts xs)).denote} {ids : List Nat} (hv : SVRs w Φ β s.heap vs us) (h : packAll xs vs s = some (d, s', ids)) :
    ∃ Φ' bs, Rel w0 Φ0 own0 N w Φ' β s' a ∧ Took w Φ β s Φ' s' bs ∧ ShVs w Φ' us xs d us bs := by
  unfold packAll at h
  obtain ⟨h1, h⟩ := cond_none h
  exact packShs_sound hr hv (sameK_ok hr hv xs vs us hv h1) h

/-- What was taken up. -/
structure Gave (w : World) (Φ : Nat → Prop) (β : Loc) (s : St) (β' : Loc) (s' : St) (bs : List Nat) : Prop where
  mono : Mono w Φ β s.heap w Φ β' s'.heap
  env : s'.env = s.env
  own : ∀ b, Own β' s' b → Own β s b ∨ b ∈ bs

theorem Gave.refl (w : World) (Φ : Nat → Prop) (β : Loc) (s : St) : Gave w Φ β s β s [] :=
  ⟨(Packed.refl w Φ β s).mono, rfl, fun _ h => .inl h⟩

theorem Gave.trans {bs bs' : List Nat} {β' β'' : Loc} {s'' : St} (h : Gave w Φ β s β' s' bs) (k : Gave w Φ β' s' β'' s'' bs') : Gave w Φ β s β'' s'' (bs ++ bs') :=
  ⟨h.mono.trans k.mono, k.env.trans h.env, fun b hb => by
    rcases k.own b hb with g | g
    · rcases h.own b g with g | g
      · exact .inl g
      · exact .inr (List.mem_append_left _ g)
    · exact .inr (List.mem_append_right _ g)⟩

theorem adopt_gave (hr : Rel w0 Φ0 own0 N w Φ β s a) (so : SObj) (x : Option (Nat × Nat)) (bs : List Nat) (hbs : ∀ b p, x = some (b, p) → so.owned = true → b ∈ bs) : Gave w Φ β s (β.at s.next x) (s.new so) bs := by
  refine ⟨mono_adopt hr.hp so x, rfl, ?_⟩
  rintro b ⟨id, ob, p, h1, h2, h3⟩
  simp only [St.new, look_cons] at h1
  split at h1
  · rename_i e; subst e; cases h1
    simp [Loc.at] at h3
    exact .inr (hbs b p h3 h2)
  · rename_i e
    have : id ≠ s.next := fun e' => e e'.symm
    simp [Loc.at, this] at h3
    exact .inl ⟨id, ob, p, h1, h2, h3⟩

theorem unpackCell_sound (hr : Rel w0 Φ0 own0 N w Φ β s a) {x : Cell} {d : x.ct.denote} {v : Value} {bs : List Nat} (h : CellV w Φ x d v bs) (hfree : ∀ b, b ∈ bs → ¬ Own β s b) (hown : ∀ b, b ∈ bs → own0 b ∨ w0.heap.size ≤ b) :
    ∃ β', Rel w0 Φ0 own0 N w Φ β' (unpackCell x d s).2 a ∧ Gave w Φ β s β' (unpackCell x d s).2 bs ∧ LfR w Φ β' (unpackCell x d s).2.heap (unpackCell x d s).1 v := by
  cases x with
  | pl t =>
    obtain ⟨h1, h2⟩ := h
    subst h2
    exact ⟨β, hr, .refl .., unpack1_LfR t d v h1⟩
  | own e =>
    rcases h with ⟨h1, h2, h3⟩ | ⟨b, o, cap, h1, h2, h3, h4, h5, h6, h7, h8, h9⟩
    · subst h1; subst h2; subst h3
      refine ⟨β.at s.next none, hr.adopt (.arr e []) none (fun _ _ h => by cases h) (.inl ⟨by simp [Loc.at], rfl⟩), adopt_gave hr _ _ _ (fun _ _ h => by cases h), none, by simp [Loc.at, unpackCell], ⟨_, _, _, rfl⟩, fun sz n hrw => ?_⟩
      simp only [unpackCell, St.new, look_cons, if_true, rowOf] at hrw
      cases hrw
      exact ⟨rfl, rfl, rfl⟩
    · subst h3
      refine ⟨β.at s.next (some (b, o)), hr.adopt (.arr e d) (some (b, o)) (fun b' p hbp => by
          cases hbp
          exact ⟨fun id ob q hl ho hq => hfree b (by simp) ⟨id, ob, q, hl, ho, hq⟩, h5, hown b (by simp)⟩) (.inr ⟨b, o, by simp [Loc.at], h4, h6, h7⟩), adopt_gave hr _ _ _ (fun b' p hbp _ => by cases hbp; simp), some (b, o), by simp [Loc.at, unpackCell], ⟨_, _, _, h1⟩, fun sz n hrw => ?_⟩
      simp only [unpackCell, St.new, look_cons, if_true, rowOf] at hrw
      cases hrw
      exact ⟨o, cap, h1, h2, .inl (by simp), by simp, .inl h8, fun _ => ⟨rfl, h8, h9⟩⟩

theorem unpackCells_sound : ∀ {xs : List Cell} {d : (prods (cellCts xs)).denote} {vs : List Value} {bs : List Nat} {β : Loc} {s : St}, Rel w0 Φ0 own0 N w Φ β s a → CellsV w Φ xs d vs bs → bs.Nodup → (∀ b, b ∈ bs → ¬ Own β s b) → (∀ b, b ∈ bs → own0 b ∨ w0.heap.size ≤ b) →
    ∃ β', Rel w0 Φ0 own0 N w Φ β' (unpackCells xs d s).2 a ∧ Gave w Φ β s β' (unpackCells xs d s).2 bs ∧ LfRs w Φ β' (unpackCells xs d s).2.heap (unpackCells xs d s).1 vs
  | [], d, vs, bs, β, s, hr, ⟨h1, h2⟩, _, _, _ => by subst h2; exact ⟨β, hr, .refl .., h1⟩
  | x :: r, d, vs, bs, β, s, hr, ⟨v, vs', b1, b2, e1, e2, h1, h2⟩, hnd, hfree, hown => by
    subst e1; subst e2
    rw [List.nodup_append] at hnd
    obtain ⟨n1, n2, n3⟩ := hnd
    obtain ⟨β1, g1, g2, g3⟩ := unpackCell_sound hr h1 (fun b hb => hfree b (List.mem_append_left _ hb)) (fun b hb => hown b (List.mem_append_left _ hb))
    obtain ⟨β2, k1, k2, k3⟩ := unpackCells_sound g1 h2 n2 (fun b hb ho => by
      rcases g2.own b ho with g | g
      · exact hfree b (List.mem_append_right _ hb) g
      · exact n3 b g b hb rfl) (fun b hb => hown b (List.mem_append_right _ hb))
    exact ⟨β2, k1, g2.trans k2, v, vs', rfl, LfR_mono k2.mono _ _ g3, k3⟩

theorem unpackSh_sound {x : Sh} {d : x.ct.denote} {v : Value} {bs : List Nat} {al : List Value} {done : List SVal} (hr : Rel w0 Φ0 own0 N w Φ β s a) (hdone : ∀ j u, al[j]? = some u → ∀ z, nth done j = some z → SVR w Φ β s.heap z u) (h : ShV w Φ al x d v bs) (hnd : bs.Nodup) (hfree : ∀ b, b ∈ bs → ¬ Own β s b) (hown : ∀ b, b ∈ bs → own0 b ∨ w0.heap.size ≤ b) :
    ∃ β', Rel w0 Φ0 own0 N w Φ β' (unpackSh done x d s).2 a ∧ Gave w Φ β s β' (unpackSh done x d s).2 bs ∧ SVR w Φ β' (unpackSh done x d s).2.heap (unpackSh done x d s).1 v := by
  cases x with
  | c x => exact unpackCell_sound hr h hfree hown
  | agg t =>
    obtain ⟨h1, vs, h2, h3⟩ := h
    subst h1
    exact ⟨β, hr, .refl .., vs, h2, unpackL_LfRs t d _ h3⟩
  | ptr xs =>
    obtain ⟨b, vs, bs', h1, h2, h3, h4, h5, h6, h7⟩ := h
    subst h2
    rw [List.nodup_cons] at hnd
    obtain ⟨β1, g1, g2, g3⟩ := unpackCells_sound hr h7 hnd.2 (fun b hb => hfree b (List.mem_cons_of_mem _ hb)) (fun b hb => hown b (List.mem_cons_of_mem _ hb))
    have hno : ∀ id ob q, look (unpackCells xs d s).2.heap id = some ob → ob.owned = true → β1 id ≠ some (some (b, q)) := by
      intro id ob q hl ho hq
      rcases g2.own b ⟨id, ob, q, hl, ho, hq⟩ with g | g
      · exact hfree b (by simp) g
      · exact hnd.1 g
    have hR := g1.adopt (.box (unpackCells xs d s).1) (some (b, 0)) (fun b' p hbp => by cases hbp; exact ⟨hno, h4, hown b (by simp)⟩)
      ⟨b, vs, by simp [Loc.at], h3, h5, h6, LfRs_mono (mono_adopt g1.hp _ _) _ _ g3⟩
    have hG := g2.trans (adopt_gave g1 (.box (unpackCells xs d s).1) (some (b, 0)) [b] (fun b' p hbp _ => by cases hbp; simp))
    exact ⟨_, hR, ⟨hG.mono, hG.env, fun c hc => by
      rcases hG.own c hc with g | g
      · exact .inl g
      · right
        rcases List.mem_append.1 g with g | g
        · exact List.mem_cons_of_mem _ g
        · simp at g; subst g; simp⟩, b, by simp [Loc.at], h1⟩
  | same j =>
    obtain ⟨h1, h2⟩ := h
    subst h2
    refine ⟨β, hr, .refl .., ?_⟩
    show SVR w Φ β s.heap ((nth done j).getD (.one .undef)) v
    cases hn : nth done j with
    | none => exact trivial
    | some z => exact hdone j v h1 z hn

theorem nth_snoc {α : Type} (l : List α) (x : α) (i : Nat) (y : α) (h : nth (l ++ [x]) i = some y) : nth l i = some y ∨ (i = l.length ∧ y = x) := by
  simp only [nth_getElem?] at *
  rcases Nat.lt_or_ge i l.length with hi | hi
  · left; rwa [List.getElem?_append_left hi] at h
  · right
    rw [List.getElem?_append_right hi] at h
    have : i - l.length = 0 := by
      have := (List.getElem?_eq_some_iff.1 h).1
      simp at this; omega
    rw [this] at h
    simp at h
    exact ⟨by omega, h.symm⟩

/-- The values that stand, one by one. -/
theorem unpackShs_sound {al : List Value} : ∀ {xs : List Sh} {d : (prods (shCts xs)).denote} {vs pre : List Value} {bs : List Nat} {β : Loc} {s : St} {done : List SVal}, Rel w0 Φ0 own0 N w Φ β s a → al = pre ++ vs → SVRs w Φ β s.heap done pre →
    ShVs w Φ al xs d vs bs → bs.Nodup → (∀ b, b ∈ bs → ¬ Own β s b) → (∀ b, b ∈ bs → own0 b ∨ w0.heap.size ≤ b) →
    ∃ β', Rel w0 Φ0 own0 N w Φ β' (unpackShs xs done d s).2 a ∧ Gave w Φ β s β' (unpackShs xs done d s).2 bs ∧ SVRs w Φ β' (unpackShs xs done d s).2.heap (unpackShs xs done d s).1 al
  | [], d, vs, pre, bs, β, s, done, hr, hal, hd, ⟨h1, h2⟩, _, _, _ => by
    subst h2; subst h1
    exact ⟨β, hr, .refl .., by rw [hal, List.append_nil]; exact hd⟩
  | x :: r, d, vs, pre, bs, β, s, done, hr, hal, hd, ⟨v, vs', b1, b2, e1, e2, h1, h2⟩, hnd, hfree, hown => by
    subst e1; subst e2
    rw [List.nodup_append] at hnd
    obtain ⟨n1, n2, n3⟩ := hnd
    have hlen : ∀ {l : List SVal} {u : List Value}, SVRs w Φ β s.heap l u → u.length = l.length := by
      intro l
      induction l with
      | nil => intro u h; cases h; rfl
      | cons x l ih => intro u ⟨v, vs, e, _, h⟩; subst e; simp [ih h]
    obtain ⟨β1, g1, g2, g3⟩ := unpackSh_sound (done := done) hr (fun j u hj z hz => by
      obtain ⟨u', k1, k2⟩ := SVRs_nth hd j z hz
      have hlt : j < pre.length := (List.getElem?_eq_some_iff.1 k1).1
      rw [hal, List.getElem?_append_left hlt, k1] at hj
      cases hj; exact k2) h1 n1 (fun b hb => hfree b (List.mem_append_left _ hb)) (fun b hb => hown b (List.mem_append_left _ hb))
    have hd' : SVRs w Φ β1 (unpackSh done x (headD x.ct (shCts r) d) s).2.heap (done ++ [(unpackSh done x (headD x.ct (shCts r) d) s).1]) (pre ++ [v]) := by
      have : ∀ {l : List SVal} {u : List Value} {z : SVal} {y : Value} {β hp}, SVRs w Φ β hp l u → SVR w Φ β hp z y → SVRs w Φ β hp (l ++ [z]) (u ++ [y]) := by
        intro l
        induction l with
        | nil => intro u z y β hp h hz; cases h; exact ⟨y, [], rfl, hz, rfl⟩
        | cons x l ih => intro u z y β hp ⟨v, vs, e, h1, h⟩ hz; subst e; exact ⟨v, vs ++ [y], rfl, h1, ih h hz⟩
      exact this (SVRs_mono g2.mono hd) g3
    obtain ⟨β2, k1, k2, k3⟩ := unpackShs_sound (xs := r) (d := tailD x.ct (shCts r) d) g1 (pre := pre ++ [v]) (by rw [hal]; simp) hd' h2 n2 (fun b hb ho => by
      rcases g2.own b ho with g | g
      · exact hfree b (List.mem_append_right _ hb) g
      · exact n3 b g b hb rfl) (fun b hb => hown b (List.mem_append_right _ hb))
    exact ⟨β2, k1, g2.trans k2, k3⟩

end
end Go.Bm
