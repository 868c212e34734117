import Derived.Test.YtlobhcgbmpcdlaaGreatDoorBmTm
namespace Go.Bm
set_option linter.unusedVariables false
set_option linter.unusedSimpArgs false
section
variable {w0 : World} {Φ0 own0 : Nat → Prop} {N : Frm} {w w' : World} {Φ Φ' : Nat → Prop} {β β' β2 : Loc} {a : Act} {objs : List (Bool × ObT)}
theorem bind_at : ∀ {ρ : Rho} {k id j i : Nat}, ρ.at k = some id → (ρ.bind j i).at k = some id
 | [], k, id, j, i, h => by simp [Rho.at, nth] at h
 | some x :: r, 0, id, 0, i, h => by simpa [Rho.bind, Rho.at, nth] using h
 | none :: r, 0, id, 0, i, h => by simp [Rho.at, nth] at h
 | x :: r, 0, id, j + 1, i, h => by simpa [Rho.bind, Rho.at, nth] using h
 | some x :: r, k + 1, id, 0, i, h => by simpa [Rho.bind, Rho.at, nth] using h
 | none :: r, k + 1, id, 0, i, h => by simpa [Rho.bind, Rho.at, nth] using h
 | x :: r, k + 1, id, j + 1, i, h => by
   have := bind_at (ρ := r) (k := k) (j := j) (i := i) (by simpa [Rho.at, nth] using h)
   simpa [Rho.bind, Rho.at, nth] using this
theorem bindIds_at : ∀ {xs ys : List (Option Nat)} {ρ : Rho} {k id : Nat}, ρ.at k = some id → (bindIds ρ xs ys).at k = some id
 | [], _, ρ, k, id, h => by simpa [bindIds] using h
 | some j :: r, [], ρ, k, id, h => by simpa [bindIds] using h
 | some j :: r, none :: s, ρ, k, id, h => by simpa [bindIds] using h
 | some j :: r, some i :: s, ρ, k, id, h => by simp only [bindIds]; exact bindIds_at (bind_at h)
 | none :: r, [], ρ, k, id, h => by simpa [bindIds] using h
 | none :: r, x :: s, ρ, k, id, h => by simp only [bindIds]; exact bindIds_at h
structure Prep (w : World) (Φ : Nat → Prop) (β : Loc) (p : PS) (β' : Loc) (p' : PS) : Prop where
 mono : Mono w Φ β p.s.heap w Φ β' p'.s.heap
 env : p'.s.env = p.s.env
 hold : p'.s.hold = p.s.hold
 old : ∀ id ob, look p.s.heap id = some ob → (∀ e l, ob ≠ .arr e l) → look p'.s.heap id = some ob
 rho : ∀ k id, p.ρ.at k = some id → p'.ρ.at k = some id
 gh : (∀ id ∈ p.g, β id = some none) → ∀ id ∈ p'.g, β' id = some none
theorem Mono.refl (w : World) (Φ : Nat → Prop) (β : Loc) (hp : List (Nat × SObj)) : Mono w Φ β hp w Φ β hp := ⟨fun _ _ => rfl, fun _ h => h, fun _ _ h => h, fun _ _ _ _ h => h, fun _ _ _ _ _ _ => rfl⟩
theorem Prep.refl (β : Loc) (p : PS) : Prep w Φ β p β p := ⟨.refl .., rfl, rfl, fun _ _ h _ => h, fun _ _ h => h, fun h => h⟩
theorem Prep.bind (β : Loc) (p : PS) (ρ : Rho) (h : ∀ k id, p.ρ.at k = some id → ρ.at k = some id) : Prep w Φ β p β { p with ρ := ρ } := ⟨.refl .., rfl, rfl, fun _ _ h _ => h, h, fun h => h⟩
theorem Prep.frz (β : Loc) (p : PS) (f : List Nat) : Prep w Φ β p β { p with f := f } := ⟨.refl .., rfl, rfl, fun _ _ h _ => h, fun _ _ h => h, fun h => h⟩
theorem Prep.trans {p p' p2 : PS} (h : Prep w Φ β p β' p') (k : Prep w Φ β' p' β2 p2) : Prep w Φ β p β2 p2 :=
 ⟨h.mono.trans k.mono, k.env.trans h.env, k.hold.trans h.hold, fun id ob g g' => k.old id ob (h.old id ob g g') g', fun j i g => k.rho j i (h.rho j i g), fun g => k.gh (h.gh g)⟩
theorem ghost_sound {s : St} (hr : Rel w0 Φ0 own0 N w Φ β s a) (e : CT) : Rel w0 Φ0 own0 N w Φ (β.at s.next none) (s.new (.arr e [])) a ∧ Mono w Φ β s.heap w Φ (β.at s.next none) (s.new (.arr e [])).heap :=
 ⟨hr.adopt (.arr e []) rfl none (fun _ _ h => by cases h) (.inl ⟨by simp [Loc.at], rfl⟩), mono_adopt hr.hp _ _⟩
theorem mono_dead {s : St} {id : Nat} : Mono w Φ β s.heap w Φ β (s.put id .dead).heap := by
 refine ⟨fun _ _ => rfl, fun _ h => h, fun _ _ h => h, ?_, fun _ _ _ _ _ _ => rfl⟩
 intro j x hx r hrr
 simp only [St.put, look_cons] at hrr
 split at hrr
 · cases hrr
 · exact hrr
theorem reslice_sound {s : St} (hr : Rel w0 Φ0 own0 N w Φ β s a) {id : Nat} {e : CT} {l : List e.denote} {r : Nat × Nat} {u : Value} (hl : look s.heap id = some (.arr e l)) (hh : s.held id = false) (hsz : 0 < e.size) (hv : LfR w Φ β s.heap (.sl id (some r)) u) :
  ∃ β', Rel w0 Φ0 own0 N w Φ β' ((s.put id .dead).new (.arr e (sub l (some r)))) a ∧ Mono w Φ β s.heap w Φ β' ((s.put id .dead).new (.arr e (sub l (some r)))).heap ∧
   LfR w Φ β' ((s.put id .dead).new (.arr e (sub l (some r)))).heap (.sl s.next none) u := by
 have hgive := hr.give rfl hl rfl hh
 have hfree : ∀ b' p, β id = some (some (b', p)) → (∀ id' ob q, look (s.put id .dead).heap id' = some ob → ob.owned = true → β id' ≠ some (some (b', q))) ∧ b' < w.heap.size ∧ (own0 b' ∨ w0.heap.size ≤ b') := by
  intro b' p hp
  refine ⟨fun id' ob q hl' ho' hq => ?_, hr.hp.blt id b' p hp, hr.mine hh hl rfl hp⟩
  simp only [St.put, look_cons] at hl'
  split at hl'
  · cases hl'; cases ho'
  · rename_i hne; exact hne (hr.hp.inj id id' _ _ b' p q hl hl' rfl ho' hp hq)
 obtain ⟨loc, hloc, hsh, hs⟩ := hv
 have hsl := hs e.size l.length (by rw [hl]; rfl)
 have hm := (mono_dead (w := w) (Φ := Φ) (β := β) (s := s) (id := id)).trans (mono_adopt hgive.hp (.arr e (sub l (some r))) none)
 have empty : sub l (some r) = [] → (∃ z, u = .slice z 0 0) → ∃ β', Rel w0 Φ0 own0 N w Φ β' ((s.put id .dead).new (.arr e (sub l (some r)))) a ∧ Mono w Φ β s.heap w Φ β' ((s.put id .dead).new (.arr e (sub l (some r)))).heap ∧
   LfR w Φ β' ((s.put id .dead).new (.arr e (sub l (some r)))).heap (.sl s.next none) u := by
  intro h1 h2
  refine ⟨β.at s.next none, hgive.adopt (.arr e (sub l (some r))) rfl none (fun _ _ h => by cases h) (.inl ⟨by simp [Loc.at, St.put], h1⟩), hm, none, by simp [Loc.at], hsh, fun sz n hrw => ?_⟩
  simp only [St.new, St.put, look_cons, if_true, rowOf] at hrw
  cases hrw
  exact ⟨h2, by rw [h1]; rfl, by rw [h1]; rfl⟩
 cases loc with
 | none =>
   obtain ⟨h1, h2, h3⟩ := hsl
   have : l = [] := List.eq_nil_of_length_eq_zero h2
   subst this
   exact empty (by simp [sub]) h1
 | some bo =>
   obtain ⟨b, o⟩ := bo
   obtain ⟨o', cap, e1, e2, e3, e4, e5, _⟩ := hsl
   simp only [Option.getD_some] at e1 e2 e3 e4
   have hlen := sub_len l (some r) (by simpa using e4)
   simp only [Option.getD_some] at hlen
   by_cases hc : cap = 0
   · have h0 : r.2 = 0 := by omega
     exact empty (List.eq_nil_of_length_eq_zero (by rw [hlen, h0])) ⟨_, by rw [e1, h0, hc]⟩
   · have h3 : o' = o + r.1 * e.size := by rcases e3 with e3 | e3; exact e3; exact absurd e3 hc
     have h5 : o' + cap * e.size = blockSize w b := by rcases e5 with e5 | e5; exact e5; exact absurd e5 hc
     rcases hr.hp.ob id _ hl with ⟨g1, _⟩ | ⟨b', p', g1, hnΦ, hfz, hrow⟩
     · rw [hloc] at g1; cases g1
     rw [hloc] at g1; cases g1
     have hrow' : RowAt w Φ e b o' (sub l (some r)) := by
      intro j xx hj
      obtain ⟨us, k1, k2⟩ := hrow _ xx (sub_nth l (some r) j xx hj)
      refine ⟨us, ?_, k2⟩
      rw [h3]
      simpa [Nat.add_mul, Nat.add_assoc] using k1
     have hm2 := (mono_dead (w := w) (Φ := Φ) (β := β) (s := s) (id := id)).trans (mono_adopt hgive.hp (.arr e (sub l (some r))) (some (b, o')))
     refine ⟨β.at s.next (some (b, o')), hgive.adopt (.arr e (sub l (some r))) rfl (some (b, o')) (fun b' p hbp => by cases hbp; obtain ⟨q1, q2, q3⟩ := hfree b o hloc; exact ⟨q1, q2, q3, norow hr hl rfl hloc (fun _ _ => rfl)⟩) (.inr ⟨b, o', by simp [Loc.at, St.put], hnΦ, hfz, hrow'⟩), hm2,
      some (b, o'), by simp [Loc.at], hsh, fun sz n hrw => ?_⟩
     simp only [St.new, St.put, look_cons, if_true, rowOf] at hrw
     cases hrw
     exact ⟨o', cap, by rw [e1]; simp [hlen], by simp [hlen]; omega, .inl (by simp), by simp, .inl h5, fun _ => ⟨rfl, h5, hsz⟩⟩
theorem prepL_sound {lt : LT} {l : Leaf} {u : Value} {p : PS} (hr : Rel w0 Φ0 own0 N w Φ β p.s a) (hg : ∀ id ∈ p.g, β id = some none) (hv : LfR w Φ β p.s.heap l u) :
  ∃ β', Rel w0 Φ0 own0 N w Φ β' (prepL objs lt l p).2.s a ∧ Prep w Φ β p β' (prepL objs lt l p).2 ∧ LfR w Φ β' (prepL objs lt l p).2.s.heap (prepL objs lt l p).1 u := by
 unfold prepL
 split
 · exact ⟨β, hr, .bind _ _ _ (fun _ _ => bind_at), hv⟩
 · exact ⟨β, hr, .bind _ _ _ (fun _ _ => bind_at), hv⟩
 · exact ⟨β, hr, .bind _ _ _ (fun _ _ => bind_at), hv⟩
 · rename_i k id r
   split
   · rename_i e l hk hl
     cases hc : (p.s.held id || !Nat.blt 0 e.size) with
     | true => exact ⟨β, hr, .refl .., hv⟩
     | false =>
       simp only [Bool.or_eq_false_iff, Bool.not_eq_false'] at hc
       obtain ⟨β', g1, g2, g3⟩ := reslice_sound hr hl hc.1 (by rw [← Nat.blt_eq]; exact hc.2) hv
       refine ⟨β', g1, ⟨g2, rfl, rfl, fun j ob hj hne => ?_, fun _ _ => bind_at, fun h j hj => g2.loc _ _ (h j hj)⟩, g3⟩
       have h1 : j ≠ p.s.next := fun e => by subst e; rw [hr.hp.look_next] at hj; cases hj
       have h2 : j ≠ id := fun e => by subst e; rw [hl] at hj; cases hj; exact hne _ _ rfl
       show look ((p.s.put id .dead).new _).heap j = _
       simp only [St.new, St.put, look_cons]
       rw [if_neg (fun e => h1 e.symm), if_neg (fun e => h2 e.symm)]
       exact hj
   · exact ⟨β, hr, .refl .., hv⟩
 · rename_i k
   split
   · rename_i id hk
     cases hc : has p.g id with
     | false => exact ⟨β, hr, .refl .., hv⟩
     | true =>
       refine ⟨β, hr, .refl .., none, hg id (has_mem.1 hc), ⟨_, _, _, hv⟩, fun sz n hrw => ?_⟩
       have hv' : u = .slice none 0 0 := hv
       replace hrw : rowOf (look p.s.heap id) = some (sz, n) := hrw
       cases hl : look p.s.heap id with
       | none => rw [hl] at hrw; cases hrw
       | some ob =>
         have hob := hr.hp.ob id ob hl
         have hb := hg id (has_mem.1 hc)
         rw [hl] at hrw
         have h0 : n = 0 := by
          cases ob with
          | dead => cases hrw
          | box cs => cases hrw
          | map _ _ _ _ => cases hrw
          | mrows _ _ _ _ => cases hrw
          | rows e l g => obtain ⟨b, o, hs, k1, _⟩ := hob; rw [hb] at k1; cases k1
          | zip e l cs q => obtain ⟨b, o, hs, k1, _⟩ := hob; rw [hb] at k1; cases k1
          | cells cs => obtain ⟨b, vs, k1, _⟩ := hob; rw [hb] at k1; cases k1
          | arr e l =>
            rcases hob with ⟨_, k2⟩ | ⟨b, o, k1, _⟩
            · subst k2; cases hrw; rfl
            · rw [hb] at k1; cases k1
          | frz e l =>
            rcases hob with ⟨_, k2⟩ | ⟨b, o, k1, _⟩
            · subst k2; cases hrw; rfl
            · rw [hb] at k1; cases k1
         subst h0
         exact ⟨⟨none, hv'⟩, rfl, rfl⟩
   · split
     · rename_i bb e hk
       obtain ⟨g1, g2⟩ := ghost_sound hr e
       refine ⟨_, g1, ⟨g2, rfl, rfl, fun j ob hj hne => ?_, fun _ _ => bind_at, fun h j hj => ?_⟩, none, by simp [Loc.at], ⟨_, _, _, hv⟩, fun sz n hrw => ?_⟩
       · have h1 : j ≠ p.s.next := fun e => by subst e; rw [hr.hp.look_next] at hj; cases hj
         show look (p.s.new _).heap j = _
         simp only [St.new, look_cons]
         rw [if_neg (fun e => h1 e.symm)]
         exact hj
       · rcases List.mem_cons.1 hj with e1 | hj
         · subst e1; simp [Loc.at]
         · exact g2.loc _ _ (h j hj)
       · simp only [St.new, look_cons, if_true, rowOf] at hrw
         cases hrw
         exact ⟨⟨none, hv⟩, rfl, rfl⟩
     · exact ⟨β, hr, .refl .., hv⟩
 · exact ⟨β, hr, .bind _ _ _ (fun _ _ h => bindIds_at (bindIds_at h)), hv⟩
 · exact ⟨β, hr, .bind _ _ _ (fun _ _ => bind_at), hv⟩
 · exact ⟨β, hr, .bind _ _ _ (fun _ _ => bind_at), hv⟩
 · exact ⟨β, hr, .bind _ _ _ (fun _ _ => bind_at), hv⟩
 · exact ⟨β, hr, .refl .., hv⟩
theorem SVRs_mono {hp hp' : List (Nat × SObj)} (m : Mono w Φ β hp w' Φ' β' hp') : ∀ {l : List SVal} {v : List Value}, SVRs w Φ β hp l v → SVRs w' Φ' β' hp' l v
 | [], _, h => h
 | l :: ls, _, ⟨v, vs', e, h1, h2⟩ => ⟨v, vs', e, SVR_mono m _ _ h1, SVRs_mono m h2⟩
theorem LfRs_cut {β : Loc} {hp : List (Nat × SObj)} {ls : List Leaf} {us : List Value} (n : Nat) (h1 : LfRs w Φ β hp (ls.take n) (us.take n)) (m : List Leaf) (h2 : LfRs w Φ β hp m (us.drop n)) : LfRs w Φ β hp (ls.take n ++ m) us := by
 have := LfRs_app h1 h2
 rwa [List.take_append_drop] at this
theorem prepLs_sound : ∀ {lts : List LT} {ls : List Leaf} {us : List Value} {p : PS} {β : Loc}, Rel w0 Φ0 own0 N w Φ β p.s a → (∀ id ∈ p.g, β id = some none) → LfRs w Φ β p.s.heap ls us →
  ∃ β', Rel w0 Φ0 own0 N w Φ β' (prepLs objs lts ls p).2.s a ∧ Prep w Φ β p β' (prepLs objs lts ls p).2 ∧ LfRs w Φ β' (prepLs objs lts ls p).2.s.heap (prepLs objs lts ls p).1 us
 | [], ls, us, p, β, hr, hg, hv => ⟨β, hr, .refl .., hv⟩
 | lt :: r, ls, us, p, β, hr, hg, hv => by
   simp only [prepLs]
   split
   · rename_i t ht
     obtain ⟨β', g1, g2, g3⟩ := prepLs_sound (lts := r) (p := { p with f := slIds (ls.take t.size) ++ p.f }) hr hg (LfRs_drop t.size hv)
     refine ⟨β', g1, (Prep.frz β p _).trans g2, ?_⟩
     exact LfRs_cut t.size (LfRs_mono g2.mono _ _ (LfRs_take t.size hv)) _ g3
   · cases ls with
     | nil => exact ⟨β, hr, .refl .., hv⟩
     | cons l ls =>
       obtain ⟨u, us', e, h1, h2⟩ := hv
       subst e
       obtain ⟨β1, g1, g2, g3⟩ := prepL_sound (objs := objs) (lt := lt) hr hg h1
       obtain ⟨β2, k1, k2, k3⟩ := prepLs_sound (lts := r) g1 (g2.gh hg) (LfRs_mono g2.mono _ _ h2)
       exact ⟨β2, k1, g2.trans k2, u, us', rfl, LfR_mono k2.mono _ _ g3, k3⟩
theorem prepSl_sound {st : SlT} {v : SVal} {u : Value} {p : PS} (hr : Rel w0 Φ0 own0 N w Φ β p.s a) (hg : ∀ id ∈ p.g, β id = some none) (hv : SVR w Φ β p.s.heap v u) :
  ∃ β', Rel w0 Φ0 own0 N w Φ β' (prepSl objs st v p).2.s a ∧ Prep w Φ β p β' (prepSl objs st v p).2 ∧ SVR w Φ β' (prepSl objs st v p).2.s.heap (prepSl objs st v p).1 u := by
 unfold prepSl
 split
 · rename_i l x
   obtain ⟨β', g1, g2, g3⟩ := prepLs_sound (objs := objs) (lts := [l]) (ls := [x]) (us := [u]) hr hg ⟨u, [], rfl, hv, rfl⟩
   split
   · rename_i x' hx
     rw [hx] at g3
     obtain ⟨q, qs, e, h1, h2⟩ := g3
     cases e
     exact ⟨β', g1, g2, h1⟩
   · exact ⟨β, hr, .refl .., hv⟩
 · obtain ⟨vs, e, h1⟩ := hv
   obtain ⟨β', g1, g2, g3⟩ := prepLs_sound (objs := objs) hr hg h1
   exact ⟨β', g1, g2, vs, e, g3⟩
 · exact ⟨β, hr, .refl .., hv⟩
theorem prepSls_sound : ∀ {sts : List SlT} {vs : List SVal} {us : List Value} {p : PS} {β : Loc}, Rel w0 Φ0 own0 N w Φ β p.s a → (∀ id ∈ p.g, β id = some none) → SVRs w Φ β p.s.heap vs us →
  ∃ β', Rel w0 Φ0 own0 N w Φ β' (prepSls objs sts vs p).2.s a ∧ Prep w Φ β p β' (prepSls objs sts vs p).2 ∧ SVRs w Φ β' (prepSls objs sts vs p).2.s.heap (prepSls objs sts vs p).1 us
 | [], vs, us, p, β, hr, hg, hv => by cases vs <;> exact ⟨β, hr, .refl .., hv⟩
 | st :: r, [], us, p, β, hr, hg, hv => ⟨β, hr, .refl .., hv⟩
 | st :: r, v :: vs, us, p, β, hr, hg, ⟨u, us', e, h1, h2⟩ => by
   subst e
   obtain ⟨β1, g1, g2, g3⟩ := prepSl_sound (objs := objs) (st := st) hr hg h1
   obtain ⟨β2, k1, k2, k3⟩ := prepSls_sound (sts := r) g1 (g2.gh hg) (SVRs_mono g2.mono h2)
   exact ⟨β2, k1, g2.trans k2, u, us', rfl, SVR_mono k2.mono _ _ g3, k3⟩
structure Mk (mk : List Leaf → SObj) (q : Nat) : Prop where
 nr : ∀ cs, (mk cs).isRows = false
 ow : ∀ cs, (mk cs).owned = true
 na : ∀ cs e l, mk cs ≠ .arr e l
 row : ∀ cs cs', cs.length = cs'.length → rowOf (some (mk cs)) = rowOf (some (mk cs'))
 ob : ∀ (w : World) (Φ : Nat → Prop) (β : Loc) (hp : List (Nat × SObj)) (id : Nat) (cs : List Leaf), ObR w Φ β hp id (mk cs) → ∃ b o us, β id = some (some (b, o)) ∧ cellsAt w b (o + q) us ∧ LfRs w Φ β hp cs us ∧
  ∀ hp' cs', Mono w Φ β hp w Φ β hp' → LfRs w Φ β hp' cs' us → ObR w Φ β hp' id (mk cs')
theorem Mk.box : Mk .box 0 := ⟨fun _ => rfl, fun _ => rfl, fun _ _ _ h => (by cases h), fun _ _ _ => rfl, fun w Φ β hp id cs h => by
 obtain ⟨b, vs, k1, k2, k3, k4, k5⟩ := h
 exact ⟨b, 0, vs, k1, k4, k5, fun hp' cs' m h' => ⟨b, vs, k1, k2, k3, k4, h'⟩⟩⟩
theorem Mk.cells : Mk .cells 0 := ⟨fun _ => rfl, fun _ => rfl, fun _ _ _ h => (by cases h), fun _ _ h => (by simp [rowOf, h]), fun w Φ β hp id cs h => by
 obtain ⟨b, vs, k1, k2, k3, k4, k5⟩ := h
 exact ⟨b, 0, vs, k1, k4, k5, fun hp' cs' m h' => ⟨b, vs, k1, k2, k3, k4, h'⟩⟩⟩
theorem Mk.zip (e : CT) (pre post : List e.denote) : Mk (fun cs => .zip e pre cs post) (pre.length * e.size) := ⟨fun _ => rfl, fun _ => rfl, fun _ _ _ h => (by cases h), fun _ _ _ => rfl, fun w Φ β hp id cs h => by
 obtain ⟨b, o, vs, k1, k2, k3, k4, k5, k6, k7, k8⟩ := h
 exact ⟨b, o, vs, k1, k5, k6, fun hp' cs' m h' => ⟨b, o, vs, k1, k2, k3, k4, k5, h', k7, k8⟩⟩⟩
theorem swap_sound {s : St} (hr : Rel w0 Φ0 own0 N w Φ β s a) {id q : Nat} {mk : List Leaf → SObj} (hmk : Mk mk q) {cs cs' : List Leaf} (hl : look s.heap id = some (mk cs)) (hh : s.held id = false)
  (h : ∀ b o us, β id = some (some (b, o)) → cellsAt w b (o + q) us → LfRs w Φ β s.heap cs us → LfRs w Φ β s.heap cs' us) : Rel w0 Φ0 own0 N w Φ β (s.put id (mk cs')) a ∧ Mono w Φ β s.heap w Φ β (s.put id (mk cs')).heap := by
 obtain ⟨b, o, us, k1, k4, k5, kf⟩ := hmk.ob _ _ _ _ _ _ (hr.hp.ob id _ hl)
 have h' := h b o us k1 k4 k5
 have hlen : rowOf (some (mk cs')) = rowOf (some (mk cs)) := hmk.row _ _ (by rw [← LfRs_len h', ← LfRs_len k5])
 have m : Mono w Φ β s.heap w Φ β (s.put id (mk cs')).heap := by
  refine ⟨fun _ _ => rfl, fun _ h => h, fun _ _ h => h, ?_, fun _ _ _ _ _ _ => rfl⟩
  intro j x hx r hrr
  simp only [St.put, look_cons] at hrr
  split at hrr
  · rename_i e; subst e; rw [hl, ← hlen]; exact hrr
  · exact hrr
 exact ⟨hr.turn (hmk.nr _) (hmk.nr _) hl (.inl (hmk.ow _)) hh w Φ hr.same rfl (fun _ h => h) (fun _ h => .inl h) (fun _ _ _ => rfl) (fun _ _ => rfl) (fun _ _ => rfl) (.inl hlen) (kf _ _ m (LfRs_mono m _ _ h')), m⟩
theorem prepOb_sound {id q : Nat} {mk : List Leaf → SObj} (hmk : Mk mk q) {lts : List LT} {cs : List Leaf} {p : PS} (hr : Rel w0 Φ0 own0 N w Φ β p.s a) (hg : ∀ id ∈ p.g, β id = some none) (hl : look p.s.heap id = some (mk cs)) :
  ∃ β', Rel w0 Φ0 own0 N w Φ β' (prepOb objs id mk lts cs p).s a ∧ Mono w Φ β p.s.heap w Φ β' (prepOb objs id mk lts cs p).s.heap ∧ (prepOb objs id mk lts cs p).s.env = p.s.env ∧ (prepOb objs id mk lts cs p).s.hold = p.s.hold ∧
   (∀ k id', p.ρ.at k = some id' → (prepOb objs id mk lts cs p).ρ.at k = some id') ∧ (∀ id' ∈ (prepOb objs id mk lts cs p).g, β' id' = some none) := by
 obtain ⟨b, o, us, hb, hc, hus, _⟩ := hmk.ob _ _ _ _ _ _ (hr.hp.ob id _ hl)
 obtain ⟨β', g1, g2, g3⟩ := prepLs_sound (objs := objs) (lts := lts) hr hg hus
 unfold prepOb
 cases hcond : (Nat.beq (prepLs objs lts cs p).2.n p.n || p.s.held id) with
 | true => exact ⟨β', g1, g2.mono, g2.env, g2.hold, g2.rho, g2.gh hg⟩
 | false =>
   simp only [Bool.or_eq_false_iff] at hcond
   have hl' := g2.old id _ hl (fun e l => hmk.na _ e l)
   have hh' : (prepLs objs lts cs p).2.s.held id = false := by unfold St.held at *; rw [g2.hold]; exact hcond.2
   obtain ⟨k1, k2⟩ := swap_sound (cs' := (prepLs objs lts cs p).1) g1 hmk hl' hh' (fun b' o' us' hb' hc' h' => by
    rw [g2.mono.loc _ _ hb] at hb'
    cases hb'
    have : us' = us := cellsAt_fun hc' hc (by rw [LfRs_len h', LfRs_len hus])
    subst this
    exact g3)
   exact ⟨β', k1, g2.mono.trans k2, g2.env, g2.hold, g2.rho, g2.gh hg⟩
theorem prepObs_sound : ∀ {l : List (Bool × ObT)} {k : Nat} {p : PS} {β : Loc}, Rel w0 Φ0 own0 N w Φ β p.s a → (∀ id ∈ p.g, β id = some none) →
  ∃ β', Rel w0 Φ0 own0 N w Φ β' (prepObs objs k l p).s a ∧ Mono w Φ β p.s.heap w Φ β' (prepObs objs k l p).s.heap ∧ (prepObs objs k l p).s.env = p.s.env ∧ (prepObs objs k l p).s.hold = p.s.hold ∧
   (∀ j id, p.ρ.at j = some id → (prepObs objs k l p).ρ.at j = some id)
 | [], k, p, β, hr, hg => ⟨β, hr, .refl .., rfl, rfl, fun _ _ h => h⟩
 | o :: r, k, p, β, hr, hg => by
   simp only [prepObs]
   split
   · rename_i id hid
     split
     · rename_i ls cs ho hl
       obtain ⟨β1, g1, g2, g3, g4, g5, g6⟩ := prepOb_sound (objs := objs) Mk.box (lts := ls) hr hg hl
       obtain ⟨β2, k1, k2, k3, k4, k5⟩ := prepObs_sound (l := r) (k := k + 1) g1 g6
       exact ⟨β2, k1, g2.trans k2, k3.trans g3, k4.trans g4, fun j i h => k5 j i (g5 j i h)⟩
     · rename_i ls cs ho hl
       obtain ⟨β1, g1, g2, g3, g4, g5, g6⟩ := prepOb_sound (objs := objs) Mk.cells (lts := ls) hr hg hl
       obtain ⟨β2, k1, k2, k3, k4, k5⟩ := prepObs_sound (l := r) (k := k + 1) g1 g6
       exact ⟨β2, k1, g2.trans k2, k3.trans g3, k4.trans g4, fun j i h => k5 j i (g5 j i h)⟩
     · exact prepObs_sound (l := r) (k := k + 1) (p := { p with f := id :: p.f }) hr hg
     · exact prepObs_sound (l := r) (k := k + 1) (p := { p with f := id :: p.f }) hr hg
     · rename_i e' ls e pre cs post ho hl
       obtain ⟨β1, g1, g2, g3, g4, g5, g6⟩ := prepOb_sound (objs := objs) (Mk.zip e pre post) (lts := ls) hr hg hl
       obtain ⟨β2, k1, k2, k3, k4, k5⟩ := prepObs_sound (l := r) (k := k + 1) g1 g6
       exact ⟨β2, k1, g2.trans k2, k3.trans g3, k4.trans g4, fun j i h => k5 j i (g5 j i h)⟩
     · exact prepObs_sound (l := r) (k := k + 1) hr hg
   · exact prepObs_sound (l := r) (k := k + 1) hr hg
theorem unzip_sound {s : St} (hr : Rel w0 Φ0 own0 N w Φ β s a) {id : Nat} {e : CT} {pre : List e.denote} {cs : List Leaf} {post : List e.denote} (hl : look s.heap id = some (.zip e pre cs post)) (hh : s.held id = false) :
  ∃ Φ', Rel w0 Φ0 own0 N w Φ' β (unzip id e pre cs post s) a ∧ Mono w Φ β s.heap w Φ' β (unzip id e pre cs post s).heap ∧ (unzip id e pre cs post s).env = s.env ∧ (unzip id e pre cs post s).hold = s.hold := by
 unfold unzip
 split
 case h_2 => exact ⟨Φ, hr, .refl .., rfl, rfl⟩
 rename_i y s' hp
 obtain ⟨b, o, us, k1, k2, k3, k4, k5, k6, k7, k8⟩ := hr.hp.ob id _ hl
 obtain ⟨Φ', p1, p2, p3⟩ := packL_sound hr k6 hp
 split
 case h_2 => exact ⟨Φ', p1, p2.mono, p2.env, p2.hold⟩
 rename_i e2 pre2 cs2 post2 hl2
 have hl2' := p2.look id _ hl2 rfl
 rw [hl] at hl2'
 cases hl2'
 have hh' : s'.held id = false := by unfold St.held at *; rw [p2.hold]; exact hh
 obtain ⟨b', o', us', q1, q2, q3, q4, q5, q6, q7, q8⟩ := p1.hp.ob id _ hl2
 rw [k1] at q1; cases q1
 have hus : us' = us := cellsAt_fun q5 k5 (by rw [q7, k7])
 subst hus
 have hrow : rowOf (some (.arr e (pre ++ y :: post))) = rowOf (some (.zip e pre cs post)) := by simp [rowOf]; omega
 have m : Mono w Φ' β s'.heap w Φ' β (s'.put id (.arr e (pre ++ y :: post))).heap := by
  refine ⟨fun _ _ => rfl, fun _ h => h, fun _ _ h => h, ?_, fun _ _ _ _ _ _ => rfl⟩
  intro j x hx r hrr
  simp only [St.put, look_cons] at hrr
  split at hrr
  · rename_i e; subst e; rw [hl2, ← hrow]; exact hrr
  · exact hrr
 refine ⟨Φ', p1.turn rfl rfl hl2 (.inl rfl) hh' w Φ' p1.same rfl (fun _ h => h) (fun _ h => .inl h) (fun _ _ _ => rfl) (fun _ _ => rfl) (fun _ _ => rfl) (.inl hrow) (.inr ⟨b, o, k1, q2, q3, fun i x hx => ?_⟩), p2.mono.trans m, p2.env, p2.hold⟩
 rw [nth_getElem?] at hx
 rcases Nat.lt_trichotomy i pre.length with h | h | h
 · rw [List.getElem?_append_left h] at hx
   exact q4 i x (by rw [nth_getElem?]; exact hx)
 · subst h
   rw [List.getElem?_append_right (Nat.le_refl _), Nat.sub_self] at hx
   cases hx
   exact ⟨us', q5, p3⟩
 · rw [List.getElem?_append_right (by omega), show i - pre.length = (i - pre.length - 1) + 1 by omega, List.getElem?_cons_succ] at hx
   obtain ⟨vs, v1, v2⟩ := q8 _ x (by rw [nth_getElem?]; exact hx)
   refine ⟨vs, ?_, v2⟩
   rw [Nat.add_assoc, ← Nat.add_mul, show pre.length + 1 + (i - pre.length - 1) = i by omega] at v1
   exact v1
theorem frzs_sound : ∀ {ids : List Nat} {s : St} {Φ : Nat → Prop}, Rel w0 Φ0 own0 N w Φ β s a → ∃ Φ', Rel w0 Φ0 own0 N w Φ' β (frzs ids s) a ∧ Mono w Φ β s.heap w Φ' β (frzs ids s).heap ∧ (frzs ids s).env = s.env ∧ (frzs ids s).hold = s.hold
 | [], s, Φ, hr => ⟨Φ, hr, .refl .., rfl, rfl⟩
 | id :: r, s, Φ, hr => by
   simp only [frzs]
   split
   · rename_i e l hl
     cases hh : s.held id with
     | true => exact frzs_sound (ids := r) hr
     | false =>
       obtain ⟨Φ1, g1, g2, _⟩ := hr.freeze hl hh
       obtain ⟨Φ2, k1, k2, k3, k4⟩ := frzs_sound (ids := r) g1
       exact ⟨Φ2, k1, g2.mono.trans k2, k3, k4⟩
   · rename_i e l hl
     cases hh : s.held id with
     | true => exact frzs_sound (ids := r) hr
     | false =>
       obtain ⟨Φ1, g1, g2⟩ := hr.freezeR hl hh
       obtain ⟨Φ2, k1, k2, k3, k4⟩ := frzs_sound (ids := r) g1
       exact ⟨Φ2, k1, g2.trans k2, k3, k4⟩
   · rename_i k e l hl
     cases hh : s.held id with
     | true => exact frzs_sound (ids := r) hr
     | false =>
       obtain ⟨Φ1, g1, g2⟩ := hr.freezeM hl hh
       obtain ⟨Φ2, k1, k2, k3, k4⟩ := frzs_sound (ids := r) g1
       exact ⟨Φ2, k1, g2.trans k2, k3, k4⟩
   · rename_i e pre cs post hl
     cases hh : s.held id with
     | true => exact frzs_sound (ids := r) hr
     | false =>
       obtain ⟨Φ1, g1, g2, g3, g4⟩ := unzip_sound hr hl hh
       obtain ⟨Φ2, k1, k2, k3, k4⟩ := frzs_sound (ids := r) g1
       exact ⟨Φ2, k1, g2.trans k2, k3.trans g3, k4.trans g4⟩
   · exact frzs_sound (ids := r) hr
theorem rho_of_mem : ∀ {ρ : Rho} {id : Nat}, id ∈ rhoIds ρ → ∃ k, ρ.at k = some id
 | [], id, h => by simp [rhoIds] at h
 | some x :: r, id, h => by
   rcases List.mem_cons.1 h with e | h
   · subst e; exact ⟨0, rfl⟩
   · obtain ⟨k, hk⟩ := rho_of_mem (ρ := r) h; exact ⟨k + 1, by simpa [Rho.at, nth] using hk⟩
 | none :: r, id, h => by obtain ⟨k, hk⟩ := rho_of_mem (ρ := r) h; exact ⟨k + 1, by simpa [Rho.at, nth] using hk⟩
structure PackR (w0 : World) (Φ0 own0 : Nat → Prop) (N : Frm) (w : World) (Φ : Nat → Prop) (β : Loc) (s : St) (a : Act) (T : Tm) (ρ0 : Rho) (us : List Value) (ds : List Dyn) (ρ : Rho) (s1 : St) (Φ1 : Nat → Prop) (β1 : Loc) : Prop where
 rel : Rel w0 Φ0 own0 N w Φ1 β1 s1 a
 inst : InstR w Φ1 T ds us (fun k => (ρ.at k).bind β1)
 row : ∀ k id, ρ.at k = some id → ∀ r, rowOf (look (T.heap ds) k) = some r → rowOf (look s1.heap id) = some r
 obj : ∀ k o', look (T.heap ds) k = some o' → k < T.objs.length ∧ ∃ bo, T.objs[k]? = some bo ∧ (bo.2 = .gone ∧ o' = .dead ∨ ∃ id ob, ρ.at k = some id ∧ look s1.heap id = some ob ∧ ob.owned = true ∧ o'.owned = true ∧ (o'.isRows = true → o' = ob))
 mono : Mono w Φ β s.heap w Φ1 β1 s1.heap
 env : s1.env = s.env
 hold : s1.hold = s.hold
 rho : ∀ k id, ρ0.at k = some id → ρ.at k = some id
 nodup : (rhoIds ρ).Nodup
 len : ρ.length ≤ T.objs.length
 free : ∀ id ∈ rhoIds ρ, s1.held id = false
theorem packT_sound {s : St} (hr : Rel w0 Φ0 own0 N w Φ β s a) {T : Tm} {ρ0 : Rho} {vs : List SVal} {us : List Value} {q : Packed0} (hv : SVRs w Φ β s.heap vs us) (h : packT T ρ0 vs s = some q) :
  ∃ Φ1 β1, PackR w0 Φ0 own0 N w Φ β s a T ρ0 us q.ds q.ρ q.s Φ1 β1 := by
 unfold packT at h
 obtain ⟨β1, g1, g2, g3⟩ := prepSls_sound (objs := T.objs) (sts := T.slots) (p := { s := s, ρ := ρ0 }) hr (fun id h => by cases h) hv
 generalize hps : prepSls T.objs T.slots vs { s := s, ρ := ρ0 } = ps at *
 obtain ⟨vs', p0⟩ := ps
 simp only at h g1 g2 g3
 obtain ⟨β2, k1, k2, k3, k4, k5⟩ := prepObs_sound (objs := T.objs) (l := T.objs) (k := 0) g1 (g2.gh (fun id h => by cases h))
 generalize hp : prepObs T.objs 0 T.objs p0 = p at *
 obtain ⟨Φ3, l1, l2, l3, l4⟩ := frzs_sound (ids := p.f) k1
 generalize hs1 : frzs p.f p.s = s1 at *
 split at h
 case h_2 => cases h
 rename_i x y hx hy
 obtain ⟨hb, h⟩ := cond_none h
 cases h
 simp only [Bool.and_eq_true] at hb
 have hv' := SVRs_mono (k2.trans l2) g3
 obtain ⟨m1, m2, m3⟩ := ext_inst l1.hp hv' hx hy (nodupB_spec hb.1) (Nat.le_of_ble_eq_true hb.2.2)
 exact ⟨Φ3, β2, ⟨l1, m1, m2, m3, (g2.mono.trans k2).trans l2, by rw [l3, k3, g2.env], by rw [l4, k4, g2.hold], fun k id hk => k5 k id (g2.rho k id hk), nodupB_spec hb.1, Nat.le_of_ble_eq_true hb.2.2, freeB_spec hb.2.1⟩⟩
theorem packD_sound {s s1 : St} (hr : Rel w0 Φ0 own0 N w Φ β s a) {T : Tm} {ρ0 ρ : Rho} {vs : List SVal} {us : List Value} {d : T.ct.denote} (hv : SVRs w Φ β s.heap vs us) (h : packD T ρ0 vs s = some (d, ρ, s1)) :
  ∃ Φ1 β1, PackR w0 Φ0 own0 N w Φ β s a T ρ0 us (fromD T.cts d) ρ s1 Φ1 β1 := by
 unfold packD at h
 split at h
 case h_2 => cases h
 rename_i q hq
 split at h
 case h_2 => cases h
 rename_i d' hd
 cases h
 rw [toD_from hd]
 exact packT_sound hr hv hq
end
end Go.Bm
