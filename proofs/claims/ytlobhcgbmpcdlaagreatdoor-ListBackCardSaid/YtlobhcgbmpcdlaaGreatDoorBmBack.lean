import Derived.Test.YtlobhcgbmpcdlaaGreatDoorBmPrep
namespace Go.Bm
set_option linter.unusedVariables false
set_option linter.unusedSimpArgs false
def Stays (T : Tm) (k : Nat) : Prop := ∃ o, nth T.objs k = some (true, o)
structure PostR (w : World) (Φ : Nat → Prop) (γ : Loc) (T : Tm) (ds : List Dyn) (w' : World) (Φ' : Nat → Prop) (γ' : Loc) (T' : Tm) (ds' : List Dyn) : Prop where
 same : Same w (OwnH w γ (T.heap ds)) w'
 mem : ∀ b, OwnH w' γ' (T'.heap ds') b → OwnH w γ (T.heap ds) b ∨ w.heap.size ≤ b
 sub : ∀ b, Φ b → Φ' b
 fro : ∀ b, Φ' b → Φ b ∨ OwnH w γ (T.heap ds) b ∨ w.heap.size ≤ b
 keep : ∀ k, Stays T k → Kept w γ (T.heap ds) w' γ' (T'.heap ds') k
section
variable {w0 : World} {Φ0 own0 : Nat → Prop} {N : Frm} {w w' : World} {Φ Φ' Φ1 : Nat → Prop} {β β1 γ γ' : Loc} {s s1 : St} {a : Act} {hp hp' : List (Nat × SObj)} {f : Nat → Nat}
theorem IdsR_ren (h : ∀ k x, γ k = some x → β (f k) = some x) : ∀ (l : List (Option Nat)) (vs : List Value), IdsR γ l vs → IdsR β (renIds f l) vs
 | [], _, g => g
 | none :: r, _, ⟨v, vs', e, g1, g2⟩ => ⟨v, vs', e, g1, IdsR_ren h r vs' g2⟩
 | some id :: r, _, ⟨v, vs', e, ⟨b, g1, g3⟩, g2⟩ => ⟨v, vs', e, ⟨b, h _ _ g1, g3⟩, IdsR_ren h r vs' g2⟩
theorem LfR_ren (h : ∀ k x, γ k = some x → β (f k) = some x) (hr : ∀ k r, rowOf (look hp (f k)) = some r → rowOf (look hp' k) = some r) : ∀ (l : Leaf) (v : Value), LfR w Φ γ hp' l v → LfR w Φ β hp (renL f l) v
 | .undef, _, g => g
 | .int _ _, _, g => g
 | .bool _, _, g => g
 | .str _, _, g => g
 | .list _ _, _, g => g
 | .clist _ _, _, g => g
 | .nils, _, g => g
 | .ptr id off, v, ⟨b, h1, h2⟩ => ⟨b, h _ _ h1, h2⟩
 | .eptr id i off, v, ⟨loc, h1, hp, h2⟩ => ⟨loc, h _ _ h1, hp, fun sz n hrw => h2 sz n (hr _ _ hrw)⟩
 | .vptr _ _ _, _, g => g
 | .sl id r, v, ⟨loc, h1, hs, h2⟩ => ⟨loc, h _ _ h1, hs, fun sz n hrw => h2 sz n (hr _ _ hrw)⟩
 | .fn g xs ys, v, ⟨us, vs, h1, h2, h3⟩ => ⟨us, vs, h1, IdsR_ren h _ _ h2, IdsR_ren h _ _ h3⟩
 | .ifp t id off, v, ⟨b, h1, h2⟩ => ⟨b, h _ _ h1, h2⟩
 | .ifi _ _ _, _, g => g
 | .mp id, v, ⟨b, h1, h2⟩ => ⟨b, h _ _ h1, h2⟩
 | .nilp, _, g => g
 | .nilf, _, g => g
 | .nili, _, g => g
 | .nilm, _, g => g
 | .anyb, _, g => g
theorem LfRs_ren (h : ∀ k x, γ k = some x → β (f k) = some x) (hr : ∀ k r, rowOf (look hp (f k)) = some r → rowOf (look hp' k) = some r) : ∀ (l : List Leaf) (v : List Value), LfRs w Φ γ hp' l v → LfRs w Φ β hp (renLs f l) v
 | [], _, g => g
 | l :: ls, _, ⟨v, vs', e, h1, h2⟩ => ⟨v, vs', e, LfR_ren h hr l v h1, LfRs_ren h hr ls vs' h2⟩
theorem SVR_ren (h : ∀ k x, γ k = some x → β (f k) = some x) (hr : ∀ k r, rowOf (look hp (f k)) = some r → rowOf (look hp' k) = some r) (x : SVal) (v : Value) (hx : ∀ ps, x ≠ .tup ps) (g : SVR w Φ γ hp' x v) : SVR w Φ β hp (renV f x) v := by
 cases x with
 | one l => exact LfR_ren h hr l v g
 | agg cs => obtain ⟨vs, e, g⟩ := g; exact ⟨vs, e, LfRs_ren h hr _ _ g⟩
 | tup ps => exact absurd rfl (hx ps)
 | skip => exact g
theorem inst_no_tup : ∀ {sts : List SlT} {ds : List Dyn} (v : SVal), v ∈ (instSls sts ds).1 → ∀ ps, v ≠ .tup ps
 | [], ds, v, h => by simp [instSls] at h
 | st :: r, ds, v, h => by
   simp only [instSls, List.mem_cons] at h
   rcases h with h | h
   · subst h
     cases st <;> intro ps e <;> simp [instSl] at e
   · exact inst_no_tup v h
theorem SVRs_ren (h : ∀ k x, γ k = some x → β (f k) = some x) (hr : ∀ k r, rowOf (look hp (f k)) = some r → rowOf (look hp' k) = some r) : ∀ (x : List SVal) (v : List Value), (∀ y ∈ x, ∀ ps, y ≠ .tup ps) → SVRs w Φ γ hp' x v → SVRs w Φ β hp (renVs f x) v
 | [], _, _, g => g
 | l :: ls, _, hx, ⟨v, vs', e, h1, h2⟩ => ⟨v, vs', e, SVR_ren h hr l v (hx l (by simp)) h1, SVRs_ren h hr ls vs' (fun y hy => hx y (List.mem_cons_of_mem _ hy)) h2⟩
theorem renLs_len : ∀ (l : List Leaf), (renLs f l).length = l.length
 | [] => rfl
 | _ :: l => by simp [renLs, renLs_len l]
theorem renO_row (o : SObj) : rowOf (some (renO f o)) = rowOf (some o) := by cases o <;> simp [renO, rowOf, renLs_len]
theorem renO_rows {o : SObj} (h : (renO f o).isRows = true) : renO f o = o := by cases o <;> first | rfl | cases h
theorem renO_owned (o : SObj) : (renO f o).owned = o.owned := by cases o <;> rfl
theorem look_app {α : Type} : ∀ (l m : List (Nat × α)) (k : Nat), look (l ++ m) k = (match look l k with
  | some x => some x
  | none => look m k)
 | [], m, k => rfl
 | (j, x) :: l, m, k => by
   simp only [List.cons_append, look_cons]
   by_cases h : j = k
   · simp only [if_pos h]
   · simp only [if_neg h]
     exact look_app l m k
theorem look_mem {α : Type} : ∀ {l : List (Nat × α)} {k : Nat} {x : α}, look l k = some x → (k, x) ∈ l
 | [], k, x, h => by cases h
 | (j, y) :: l, k, x, h => by
   rw [look_cons] at h
   split at h
   · rename_i e; subst e; cases h; simp
   · exact List.mem_cons_of_mem _ (look_mem h)
theorem look_renH : ∀ {hp : List (Nat × SObj)} {k : Nat} {o : SObj}, (∀ j ∈ hp.map (·.1), f j = f k → j = k) → look hp k = some o → look (renH f hp) (f k) = some (renO f o)
 | [], k, o, _, h => by cases h
 | (j, x) :: l, k, o, hinj, h => by
   rw [look_cons] at h
   simp only [renH, look_cons]
   split at h
   · rename_i e; subst e; cases h; rw [if_pos rfl]
   · rename_i e
     rw [if_neg (fun e' => e (hinj j (by simp) e'))]
     exact look_renH (fun i hi => hinj i (by simp at hi ⊢; exact .inr hi)) h
theorem look_renH_inv : ∀ {hp : List (Nat × SObj)} {id : Nat} {o2 : SObj}, (∀ i ∈ hp.map (·.1), ∀ j ∈ hp.map (·.1), f i = f j → i = j) → look (renH f hp) id = some o2 → ∃ k o, look hp k = some o ∧ f k = id ∧ o2 = renO f o
 | [], id, o2, _, h => by cases h
 | (j, x) :: l, id, o2, hinj, h => by
   simp only [renH, look_cons] at h
   split at h
   · rename_i e; cases h; exact ⟨j, x, by simp [look_cons], e, rfl⟩
   · rename_i e
     obtain ⟨k, o, h1, h2, h3⟩ := look_renH_inv (fun a ha b hb => hinj a (by simp at ha ⊢; exact .inr ha) b (by simp at hb ⊢; exact .inr hb)) h
     refine ⟨k, o, ?_, h2, h3⟩
     rw [look_cons, if_neg (fun e' => by subst e'; exact e h2)]
     exact h1
theorem look_deads : ∀ {l : List Nat} {id : Nat}, look (deads l) id = if id ∈ l then some .dead else none
 | [], id => by simp [deads, look]
 | x :: r, id => by
   simp only [deads, look_cons]
   by_cases e : x = id
   · subst e; simp
   · rw [if_neg e, look_deads]
     by_cases h : id ∈ r
     · rw [if_pos h, if_pos (List.mem_cons_of_mem _ h)]
     · rw [if_neg h, if_neg (by simp; exact ⟨fun e' => e e'.symm, h⟩)]
theorem instObs_look : ∀ {objs : List (Bool × ObT)} {k j : Nat} {ds : List Dyn}, k ≤ j → j < k + objs.length → ∃ o, look (instObs k objs ds).1 j = some o
 | [], k, j, ds, h1, h2 => by simp at h2; omega
 | o :: r, k, j, ds, h1, h2 => by
   simp only [instObs, look_cons]
   split
   · exact ⟨_, rfl⟩
   · exact instObs_look (by omega) (by simp at h2; omega)
theorem ObR_loc {ob : SObj} {id : Nat} (h : ObR w Φ β hp id ob) (ho : ob.owned = true) : ∃ x, β id = some x := by
 cases ob with
 | dead => cases ho
 | box cs => obtain ⟨b, _, h1, _⟩ := h; exact ⟨_, h1⟩
 | cells cs => obtain ⟨b, _, h1, _⟩ := h; exact ⟨_, h1⟩
 | arr e l => rcases h with ⟨h1, _⟩ | ⟨b, o, h1, _⟩ <;> exact ⟨_, h1⟩
 | frz e l => cases ho
 | map _ _ _ _ => obtain ⟨b, _, _, h1, _⟩ := h; exact ⟨_, h1⟩
 | mrows _ _ _ _ => obtain ⟨b, _, _, h1, _⟩ := h; exact ⟨_, h1⟩
 | rows _ _ _ => obtain ⟨b, _, _, h1, _⟩ := h; exact ⟨_, h1⟩
 | zip _ _ _ _ => obtain ⟨b, _, _, h1, _⟩ := h; exact ⟨_, h1⟩
theorem ObR_notΦ {ob : SObj} {id b p : Nat} (h : ObR w Φ β hp id ob) (ho : ob.owned = true) (hb : β id = some (some (b, p))) : ¬ Φ b := by
 cases ob with
 | dead => cases ho
 | box cs => obtain ⟨b', _, h1, h2, _⟩ := h; rw [hb] at h1; cases h1; exact h2
 | cells cs => obtain ⟨b', _, h1, h2, _⟩ := h; rw [hb] at h1; cases h1; exact h2
 | arr e l =>
   rcases h with ⟨h1, _⟩ | ⟨b', o, h1, h2, _⟩
   · rw [hb] at h1; cases h1
   · rw [hb] at h1; cases h1; exact h2
 | frz e l => cases ho
 | map _ _ _ _ => obtain ⟨b', _, _, h1, h2, _⟩ := h; rw [hb] at h1; cases h1; exact h2
 | mrows _ _ _ _ => obtain ⟨b', _, _, h1, h2, _⟩ := h; rw [hb] at h1; cases h1; exact h2
 | rows _ _ _ => obtain ⟨b', _, _, h1, h2, _⟩ := h; rw [hb] at h1; cases h1; exact h2
 | zip _ _ _ _ => obtain ⟨b', _, _, h1, h2, _⟩ := h; rw [hb] at h1; cases h1; exact h2
theorem ObR_ren (h : ∀ k x, γ k = some x → β (f k) = some x) (hr : ∀ k r, rowOf (look hp (f k)) = some r → rowOf (look hp' k) = some r) {k : Nat} {o : SObj} (g : ObR w Φ γ hp' k o) : ObR w Φ β hp (f k) (renO f o) := by
 cases o with
 | dead => trivial
 | box cs => obtain ⟨b, vs, h1, h2, h3, h4, h5⟩ := g; exact ⟨b, vs, h _ _ h1, h2, h3, h4, LfRs_ren h hr _ _ h5⟩
 | cells cs => obtain ⟨b, vs, h1, h2, h3, h4, h5⟩ := g; exact ⟨b, vs, h _ _ h1, h2, h3, h4, LfRs_ren h hr _ _ h5⟩
 | arr e l =>
   rcases g with ⟨h1, h2⟩ | ⟨b, o, h1, h2⟩
   · exact .inl ⟨h _ _ h1, h2⟩
   · exact .inr ⟨b, o, h _ _ h1, h2⟩
 | frz e l =>
   rcases g with ⟨h1, h2⟩ | ⟨b, o, h1, h2⟩
   · exact .inl ⟨h _ _ h1, h2⟩
   · exact .inr ⟨b, o, h _ _ h1, h2⟩
 | map _ _ _ _ => obtain ⟨b, es, cl, h1, h2⟩ := g; exact ⟨b, es, cl, h _ _ h1, h2⟩
 | mrows _ _ _ _ => obtain ⟨b, es, cl, h1, h2⟩ := g; exact ⟨b, es, cl, h _ _ h1, h2⟩
 | rows _ _ _ => obtain ⟨b, o, hs, h1, h2⟩ := g; exact ⟨b, o, hs, h _ _ h1, h2⟩
 | zip _ _ _ _ => obtain ⟨b, o, vs, h1, h2, h3, h4, h5, h6, h7, h8⟩ := g; exact ⟨b, o, vs, h _ _ h1, h2, h3, h4, h5, LfRs_ren h hr _ _ h6, h7, h8⟩
theorem noGone_spec : ∀ {objs : List (Bool × ObT)} {k : Nat} {bo : Bool × ObT}, noGone objs = true → objs[k]? = some bo → bo.2 ≠ .gone
 | [], k, bo, _, h => by simp at h
 | o :: r, 0, bo, hn, h => by
   simp at h; subst h
   obtain ⟨x, y⟩ := o
   cases y <;> simp [noGone] at hn ⊢
 | o :: r, k + 1, bo, hn, h => by
   refine noGone_spec (objs := r) (k := k) ?_ (by simpa using h)
   obtain ⟨x, y⟩ := o
   cases y <;> simp [noGone] at hn ⊢ <;> exact hn
theorem backId_stays {objs : List (Bool × ObT)} {ρ : Rho} {nx k id : Nat} {o : ObT} (h : nth objs k = some (true, o)) (hid : ρ.at k = some id) : backId objs ρ nx k = id := by
 unfold backId; rw [h]; simp only [hid]
theorem backId_new {T : Tm} {ρ : Rho} {nx k : Nat} (h : ¬ Stays T k) : backId T.objs ρ nx k = nx + k := by
 unfold backId
 split
 · rename_i o ho; exact absurd ⟨o, ho⟩ h
 · rfl
theorem Rel.back {T T' : Tm} {ρ0 ρ : Rho} {us rs : List Value} {ds ds' : List Dyn} (hp : PackR w0 Φ0 own0 N w Φ β s a T ρ0 us ds ρ s1 Φ1 β1) (hng : noGone T.objs = true) (hi : InstR w' Φ' T' ds' rs γ')
  (hpost : PostR w Φ1 (fun k => (ρ.at k).bind β1) T ds w' Φ' γ' T' ds') :
  ∃ β', Rel w0 Φ0 own0 N w' Φ' β' (backSt T ρ T' ds' s1) a ∧ Mono w Φ1 β1 s1.heap w' Φ' β' (backSt T ρ T' ds' s1).heap ∧ SVRs w' Φ' β' (backSt T ρ T' ds' s1).heap (backVals T ρ T' ds' s1) rs := by
 have hr := hp.rel
 have ent : ∀ k, k < T.objs.length → ∃ o' id ob, look (T.heap ds) k = some o' ∧ ρ.at k = some id ∧ look s1.heap id = some ob ∧ ob.owned = true ∧ o'.owned = true := by
  intro k hk
  obtain ⟨o', ho'⟩ := instObs_look (objs := T.objs) (k := 0) (j := k) (ds := ds) (by omega) (by omega)
  obtain ⟨_, bo, h2, h3⟩ := hp.obj k o' ho'
  rcases h3 with ⟨h3, _⟩ | ⟨id, ob, h3, h4, h5, h6⟩
  · exact absurd h3 (noGone_spec hng h2)
  · exact ⟨o', id, ob, ho', h3, h4, h5, h6.1⟩
 have stl : ∀ k, Stays T k → k < T.objs.length := by
  rintro k ⟨o, ho⟩
  rw [nth_getElem?] at ho
  exact (List.getElem?_eq_some_iff.1 ho).1
 have hB : ∀ b, OwnH w (fun k => (ρ.at k).bind β1) (T.heap ds) b → ∃ k id ob, ρ.at k = some id ∧ look s1.heap id = some ob ∧ ob.owned = true ∧ s1.held id = false ∧ ((∃ p, β1 id = some (some (b, p))) ∨ RowB w β1 id ob b) := by
  rintro b (⟨k, o', p, h1, h2, h3⟩ | ⟨k, o', h1, h2⟩)
  · obtain ⟨hk, _⟩ := hp.obj k o' h1
    obtain ⟨_, id, ob, _, h5, h6, h7, _⟩ := ent k hk
    exact ⟨k, id, ob, h5, h6, h7, hp.free id (rho_mem h5), .inl ⟨p, by simpa [h5] using h3⟩⟩
  · obtain ⟨hk, bo, _, hc⟩ := hp.obj k o' h1
    rcases hc with ⟨_, hd⟩ | ⟨id, ob, h5, h6, h7, h8, h9⟩
    · subst hd; exact absurd h2 (RowB_none rfl)
    · cases hir : o'.isRows with
      | false => exact absurd h2 (RowB_none hir)
      | true =>
        have := h9 hir
        subst this
        exact ⟨k, id, _, h5, h6, h7, hp.free id (rho_mem h5), .inr (RowB_of (w := w) (w' := w) (by simp [h5]) (fun _ _ _ => rfl) h2)⟩
 have hBown : ∀ b, OwnH w (fun k => (ρ.at k).bind β1) (T.heap ds) b → own0 b ∨ w0.heap.size ≤ b := by
  intro b hb
  obtain ⟨k, id, ob, h1, h2, h3, h5, h4⟩ := hB b hb
  rcases h4 with ⟨p, h4⟩ | h4
  · exact hr.mine h5 h2 h3 h4
  · exact hr.rown id ob b h2 h4
 have hBΦ : ∀ b, Φ1 b → ¬ OwnH w (fun k => (ρ.at k).bind β1) (T.heap ds) b := by
  intro b hΦ hb
  obtain ⟨k, id, ob, h1, h2, h3, h5, h4⟩ := hB b hb
  rcases h4 with ⟨p, h4⟩ | h4
  · exact ObR_notΦ (hr.hp.ob id ob h2) h3 h4 hΦ
  · exact (hr.hp.rin id ob b h2 h4).1 hΦ
 have notM : ∀ id ob b p, look s1.heap id = some ob → id ∉ rhoIds ρ → ob.owned = true → β1 id = some (some (b, p)) → ¬ OwnH w (fun k => (ρ.at k).bind β1) (T.heap ds) b := by
  intro id ob b p hl hm ho hb hO
  obtain ⟨k, id', ob', g1, g2, g3, g5, g4⟩ := hB b hO
  rcases g4 with ⟨q, g4⟩ | g4
  · have := hr.hp.inj id id' ob ob' b p q hl g2 ho g3 hb g4
    subst this
    exact hm (rho_mem g1)
  · exact (hr.hp.rin id' ob' b g2 g4).2.2 id ob p hl ho hb
 have notR : ∀ id ob c, look s1.heap id = some ob → id ∉ rhoIds ρ → RowB w β1 id ob c → ¬ OwnH w (fun k => (ρ.at k).bind β1) (T.heap ds) c := by
  intro id ob c hl hm hc hO
  obtain ⟨k, id', ob', g1, g2, g3, g5, g4⟩ := hB c hO
  rcases g4 with ⟨q, g4⟩ | g4
  · exact (hr.hp.rin id ob c hl hc).2.2 id' ob' q g2 g3 g4
  · have := hr.hp.rinj id id' ob ob' c hl g2 hc g4
    subst this
    exact hm (rho_mem g1)
 have hfrz : ∀ b, Φ1 b → w'.heap[b]? = w.heap[b]? := fun b hb => hpost.same.block b (hr.hp.flt b hb) (hBΦ b hb)
 have fst' : ∀ k, Stays T k → ∃ id, ρ.at k = some id ∧ backId T.objs ρ s1.next k = id ∧ id < s1.next ∧ β1 id = γ' k ∧ ∃ x, β1 id = some x := by
  intro k hk
  obtain ⟨o', id, ob, h1, h2, h3, h4, h5⟩ := ent k (stl k hk)
  obtain ⟨x, hx⟩ := ObR_loc (hr.hp.ob id ob h3) h4
  obtain ⟨o, ho⟩ := hk
  refine ⟨id, h2, backId_stays ho h2, hr.hp.hlt id ob h3, ?_, x, hx⟩
  have := (hpost.keep k ⟨o, ho⟩).loc x (by simp [h2, hx])
  rw [this, hx]
 have fnew : ∀ k, ¬ Stays T k → backId T.objs ρ s1.next k = s1.next + k := fun k hk => backId_new hk
 have finj : ∀ i j, backId T.objs ρ s1.next i = backId T.objs ρ s1.next j → i = j := by
  intro i j hij
  by_cases hi' : Stays T i <;> by_cases hj' : Stays T j
  · obtain ⟨id, h1, h2, _⟩ := fst' i hi'
    obtain ⟨id', k1, k2, _⟩ := fst' j hj'
    rw [h2, k2] at hij
    subst hij
    exact rho_inj hp.nodup h1 k1
  · obtain ⟨id, h1, h2, h3, _⟩ := fst' i hi'
    rw [h2, fnew j hj'] at hij; omega
  · obtain ⟨id, h1, h2, h3, _⟩ := fst' j hj'
    rw [h2, fnew i hi'] at hij; omega
  · rw [fnew i hi', fnew j hj'] at hij; omega
 let f : Nat → Nat := backId T.objs ρ s1.next
 let β' : Loc := fun id => if id < s1.next then β1 id else if (nth T.objs (id - s1.next)).any (·.1) then none else γ' (id - s1.next)
 have hold' : ∀ id, id < s1.next → β' id = β1 id := fun id h => by simp only [β']; rw [if_pos h]
 have hnotany : ∀ k, ¬ Stays T k → (nth T.objs k).any (·.1) = false := by
  intro k hk
  cases hn : nth T.objs k with
  | none => rfl
  | some bo =>
    obtain ⟨b, o⟩ := bo
    cases b with
    | false => rfl
    | true => exact absurd ⟨o, hn⟩ hk
 have hany : ∀ k, (nth T.objs k).any (·.1) = false → ¬ Stays T k := by
  rintro k h ⟨o, ho⟩
  rw [ho] at h; cases h
 have hnew' : ∀ k, ¬ Stays T k → β' (s1.next + k) = γ' k := fun k hk => by
  simp only [β']
  rw [if_neg (by omega), Nat.add_sub_cancel_left, hnotany k hk]
  rfl
 have hβf : ∀ k, β' (f k) = γ' k := by
  intro k
  by_cases hk : Stays T k
  · obtain ⟨id, h1, h2, h3, h4, _⟩ := fst' k hk
    show β' (backId T.objs ρ s1.next k) = _
    rw [h2, hold' id h3, h4]
  · show β' (backId T.objs ρ s1.next k) = _
    rw [fnew k hk, hnew' k hk]
 have hkeys : ∀ i ∈ (T'.heap ds').map (·.1), ∀ j ∈ (T'.heap ds').map (·.1), f i = f j → i = j := fun i _ j _ h => finj i j h
 let hp2 := (backSt T ρ T' ds' s1).heap
 have hp2e : hp2 = renH f (T'.heap ds') ++ (deads (rhoIds ρ) ++ s1.heap) := rfl
 have cases2 : ∀ id o2, look hp2 id = some o2 → (∃ k o, look (T'.heap ds') k = some o ∧ f k = id ∧ o2 = renO f o) ∨ o2 = .dead ∨ (look s1.heap id = some o2 ∧ id ∉ rhoIds ρ) := by
  intro id o2 h
  rw [hp2e, look_app] at h
  split at h
  · rename_i x hx
    cases h
    exact .inl (look_renH_inv hkeys hx)
  · rw [look_app, look_deads] at h
    by_cases hm : id ∈ rhoIds ρ
    · rw [if_pos hm] at h; cases h; exact .inr (.inl rfl)
    · rw [if_neg hm] at h; exact .inr (.inr ⟨h, hm⟩)
 have lookf : ∀ k o, look (T'.heap ds') k = some o → look hp2 (f k) = some (renO f o) := by
  intro k o h
  rw [hp2e, look_app, look_renH (fun j _ e => finj j k e) h]
 have hrow2 : ∀ k r, rowOf (look hp2 (f k)) = some r → rowOf (look (T'.heap ds') k) = some r := by
  intro k r hrw
  cases hl : look hp2 (f k) with
  | none => rw [hl] at hrw; cases hrw
  | some o2 =>
    rw [hl] at hrw
    rcases cases2 _ _ hl with ⟨k', o, h1, h2, h3⟩ | h | ⟨h1, h2⟩
    · have := finj k' k h2
      subst this
      rw [h3, renO_row] at hrw
      rw [h1]; exact hrw
    · subst h; cases hrw
    · exfalso
      by_cases hk : Stays T k
      · obtain ⟨id, g1, g2, _⟩ := fst' k hk
        have : f k = id := g2
        rw [this] at h2
        exact h2 (rho_mem g1)
      · have : f k = s1.next + k := fnew k hk
        rw [this] at h1
        have := hr.hp.hlt _ _ h1; omega
 have apart : ∀ id ob, look s1.heap id = some ob → id ∉ rhoIds ρ → ∀ b p, β1 id = some (some (b, p)) → ob.owned = true ∨ (∃ e l, ob = .frz e l) → w'.heap[b]? = w.heap[b]? := by
  intro id ob hl hm b p hb ho
  refine hpost.same.block b (hr.hp.blt _ _ _ hb) fun hB' => ?_
  rcases ho with ho | ⟨e, l, rfl⟩
  · exact notM id ob b p hl hm ho hb hB'
  · rcases hr.hp.ob id _ hl with ⟨k1, _⟩ | ⟨b', o', k1, k2, _⟩
    · rw [hb] at k1; cases k1
    · rw [hb] at k1; cases k1
      exact hBΦ _ k2 hB'
 have apartR : ∀ id ob, look s1.heap id = some ob → id ∉ rhoIds ρ → ∀ c, RowB w β1 id ob c → w'.heap[c]? = w.heap[c]? ∧ (¬ Φ1 c → ¬ Φ' c) := by
  intro id ob hl hm c hc
  have h2 := notR id ob c hl hm hc
  obtain ⟨k1, k2, _⟩ := hr.hp.rin id ob c hl hc
  refine ⟨hpost.same.block c k2 h2, fun hn hn' => ?_⟩
  rcases hpost.fro c hn' with g | g | g
  · exact hn g
  · exact h2 g
  · omega
 have m : Mono w Φ1 β1 s1.heap w' Φ' β' hp2 := by
  refine ⟨hfrz, hpost.sub, fun id x hx => by rw [hold' id (hr.hp.lt id x hx)]; exact hx, ?_, ?_⟩
  · intro id x hx r hrw
    cases hl : look hp2 id with
    | none => rw [hl] at hrw; cases hrw
    | some o2 =>
      rw [hl] at hrw
      rcases cases2 _ _ hl with ⟨k, o, h1, h2, h3⟩ | h | ⟨h1, _⟩
      · by_cases hk : Stays T k
        · obtain ⟨id', g1, g2, g3, g4, x', g5⟩ := fst' k hk
          have : f k = id' := g2
          rw [h2] at this; subst this
          rw [h3, renO_row] at hrw
          exact hp.row k id g1 r ((hpost.keep k hk).row x' (by simp [g1, g5]) r (by rw [h1]; exact hrw))
        · have : f k = s1.next + k := fnew k hk
          have := hr.hp.lt id x hx; omega
      · subst h; cases hrw
      · rw [h1]; exact hrw
  · intro id b o r hb hrw
    cases hl : look hp2 id with
    | none => rw [hl] at hrw; cases hrw
    | some o2 =>
      rw [hl] at hrw
      rcases cases2 _ _ hl with ⟨k, o', h1, h2, h3⟩ | h | ⟨h1, h2⟩
      · by_cases hk : Stays T k
        · obtain ⟨id', g1, g2, g3, g4, _⟩ := fst' k hk
          have : f k = id' := g2
          rw [h2] at this; subst this
          rw [h3, renO_row] at hrw
          exact (hpost.keep k hk).bs b o r (by simp [g1, hb]) (by rw [h1]; exact hrw)
        · have : f k = s1.next + k := fnew k hk
          have := hr.hp.lt id _ hb; omega
      · subst h; cases hrw
      · have : o2.owned = true ∨ ∃ e l, o2 = .frz e l := by
         cases o2 with
         | dead => cases hrw
         | box cs => exact .inl rfl
         | cells cs => exact .inl rfl
         | arr e l => exact .inl rfl
         | frz e l => exact .inr ⟨e, l, rfl⟩
         | map _ _ _ _ => exact .inl rfl
         | rows _ _ _ => exact .inl rfl
         | mrows _ _ _ _ => exact .inl rfl
         | zip _ _ _ _ => exact .inl rfl
        unfold blockSize
        rw [apart id o2 h1 h2 b o hb this]
 have hloc : ∀ k x, γ' k = some x → β' (f k) = some x := fun k x h => by rw [hβf]; exact h
 have hrl2 : ∀ id o2 c, look hp2 id = some o2 → RowB w' β' id o2 c → (∃ k o, look (T'.heap ds') k = some o ∧ f k = id ∧ RowB w' γ' k o c) ∨ (look s1.heap id = some o2 ∧ id ∉ rhoIds ρ ∧ RowB w β1 id o2 c) := by
  intro id o2 c hl hc
  rcases cases2 _ _ hl with ⟨k, o, h1, h2, h3⟩ | h | ⟨h1, h2⟩
  · subst h2; subst h3
    cases hir : (renO f o).isRows with
    | false => exact absurd hc (RowB_none hir)
    | true =>
      rw [renO_rows hir] at hc
      exact .inl ⟨k, o, h1, rfl, RowB_of (w := w') (w' := w') (hβf k) (fun _ _ _ => rfl) hc⟩
  · subst h; exact absurd hc (RowB_none rfl)
  · cases hir : o2.isRows with
    | false => exact absurd hc (RowB_none hir)
    | true =>
      have ho : o2.owned = true := by cases o2 <;> first | rfl | cases hir
      exact .inr ⟨h1, h2, RowB_of (w := w) (hold' id (hr.hp.hlt _ _ h1)) (fun b p hb => apart id o2 h1 h2 b p hb (.inl ho)) hc⟩
 refine ⟨β', ⟨?_, ⟨?_, ?_, ?_, ?_, ?_, hi.hp.flt, ?_, ?_⟩, ?_, ?_, ?_, ?_, hr.size, hr.fix, hr.defers, ?_, hr.keep' m, ?_⟩, m, ?_⟩
 · exact fun t v hv => SVR_mono m _ _ (hr.env t v hv)
 ·
  intro id o2 hl
  rcases cases2 _ _ hl with ⟨k, o, h1, h2, h3⟩ | h | ⟨h1, h2⟩
  · subst h2; subst h3
    exact ObR_ren hloc hrow2 (hi.hp.ob k o h1)
  · subst h; trivial
  · cases ho : o2.owned with
    | true =>
      refine ObR_mono m (fun b p hb => apart id o2 h1 h2 b p hb (.inl ho)) (fun _ b p hb hn hn' => ?_) (apartR id o2 h1 h2) (hr.hp.ob id o2 h1)
      rcases hpost.fro b hn' with g | g | g
      · exact hn g
      · exact notM id o2 b p h1 h2 ho hb g
      · exact absurd (hr.hp.blt _ _ _ hb) (by omega)
    | false =>
      cases o2 with
      | dead => trivial
      | box cs => cases ho
      | cells cs => cases ho
      | arr e l => cases ho
      | map _ _ _ _ => cases ho
      | rows _ _ _ => cases ho
      | mrows _ _ _ _ => cases ho
      | zip _ _ _ _ => cases ho
      | frz e l =>
        rcases hr.hp.ob id _ h1 with ⟨g1, g2⟩ | ⟨b, p, g1, g2, g3⟩
        · exact .inl ⟨m.loc _ _ g1, g2⟩
        · exact .inr ⟨b, p, m.loc _ _ g1, hpost.sub b g2, RowAt_mono m (hfrz b g2) g3⟩
 · intro id x hx
   show id < s1.next + T'.objs.length
   by_cases h : id < s1.next
   · omega
   · have hx' := hx
     simp only [β'] at hx
     rw [if_neg h] at hx
     cases hc : (nth T.objs (id - s1.next)).any (·.1) with
     | true => rw [hc] at hx; cases hx
     | false =>
       rw [hc] at hx
       have := hi.hp.lt (id - s1.next) x (by simpa using hx)
       simp only at this
       omega
 · intro id o2 hl
   show id < s1.next + T'.objs.length
   rcases cases2 _ _ hl with ⟨k, o, h1, h2, h3⟩ | h | ⟨h1, _⟩
   · by_cases hk : Stays T k
     · obtain ⟨id', g1, g2, g3, _⟩ := fst' k hk
       have : f k = id' := g2
       omega
     · have e : f k = s1.next + k := fnew k hk
       have := hi.hp.hlt k o h1
       simp only at this
       omega
   ·
    subst h
    replace hl : look hp2 id = some .dead := hl
    rw [hp2e, look_app] at hl
    split at hl
    · rename_i x hx
      obtain ⟨k, o, h1, h2, h3⟩ := look_renH_inv hkeys hx
      by_cases hk : Stays T k
      · obtain ⟨id', g1, g2, g3, _⟩ := fst' k hk
        have : f k = id' := g2
        omega
      · have e : f k = s1.next + k := fnew k hk
        have := hi.hp.hlt k o h1
        simp only at this
        omega
    · rw [look_app, look_deads] at hl
      by_cases hm : id ∈ rhoIds ρ
      · obtain ⟨k, hk⟩ := rho_of_mem hm
        have hkl : k < T.objs.length := by
         have := hp.inst.hp.lt k
         rcases Nat.lt_or_ge k T.objs.length with g | g
         · exact g
         · exfalso
           have hlen := hp.len
           exact absurd (rho_lt hk) (by omega)
        obtain ⟨_, id', ob, _, h5, h6, _⟩ := ent k hkl
        rw [hk] at h5; cases h5
        have := hr.hp.hlt _ _ h6
        omega
      · rw [if_neg hm] at hl
        have := hr.hp.hlt _ _ hl
        omega
   · have := hr.hp.hlt _ _ h1
     omega
 ·
  intro i j o o2 b p q h1 h2 ho1 ho2 hb hb'
  have cross : ∀ {k : Nat} {ok : SObj} {id : Nat} {ob : SObj} {b p q : Nat}, look (T'.heap ds') k = some ok → ok.owned = true → γ' k = some (some (b, p)) → look s1.heap id = some ob → id ∉ rhoIds ρ → ob.owned = true → β1 id = some (some (b, q)) → False := by
   intro k ok id ob b p q g1 g2 g3 g4 g5 g6 g7
   rcases hpost.mem b (.inl ⟨k, ok, p, g1, g2, g3⟩) with g | g
   · exact notM id ob b q g4 g5 g6 g7 g
   · have := hr.hp.blt _ _ _ g7; omega
  rcases cases2 _ _ h1 with ⟨k, ok, e1, e2, e3⟩ | h | ⟨e1, e2⟩
  · subst e3
    rw [renO_owned] at ho1
    subst e2
    rw [hβf] at hb
    rcases cases2 _ _ h2 with ⟨k', ok', e1', e2', e3'⟩ | h | ⟨e1', e2'⟩
    · subst e3'
      rw [renO_owned] at ho2
      subst e2'
      rw [hβf] at hb'
      rw [hi.hp.inj k k' ok ok' b p q e1 e1' ho1 ho2 hb hb']
    · subst h; cases ho2
    · rw [hold' j (hr.hp.hlt _ _ e1')] at hb'
      exact (cross e1 ho1 hb e1' e2' ho2 hb').elim
  · subst h; cases ho1
  · rw [hold' i (hr.hp.hlt _ _ e1)] at hb
    rcases cases2 _ _ h2 with ⟨k', ok', e1', e2', e3'⟩ | h | ⟨e1', e2'⟩
    · subst e3'
      rw [renO_owned] at ho2
      subst e2'
      rw [hβf] at hb'
      exact (cross e1' ho2 hb' e1 e2 ho1 hb).elim
    · subst h; cases ho2
    · rw [hold' j (hr.hp.hlt _ _ e1')] at hb'
      exact hr.hp.inj i j o o2 b p q e1 e1' ho1 ho2 hb hb'
 · intro id b p hb
   by_cases h : id < s1.next
   · rw [hold' id h] at hb
     exact Nat.lt_of_lt_of_le (hr.hp.blt id b p hb) hpost.same.size
   · simp only [β'] at hb
     rw [if_neg h] at hb
     cases hc : (nth T.objs (id - s1.next)).any (·.1) with
     | true => rw [hc] at hb; cases hb
     | false => rw [hc] at hb; exact hi.hp.blt _ b p (by simpa using hb)
 ·
  intro id o2 c hl hc
  rcases hrl2 id o2 c hl hc with ⟨k, o, e1, e2, e3⟩ | ⟨e1, e2, e3⟩
  · obtain ⟨k1, k2, k3⟩ := hi.hp.rin k o c e1 e3
    refine ⟨k1, k2, fun id' o' p hl' ho' hb => ?_⟩
    rcases cases2 _ _ hl' with ⟨k', ok', e1', e2', e3'⟩ | h | ⟨e1', e2'⟩
    · subst e3'; subst e2'
      rw [renO_owned] at ho'
      rw [hβf] at hb
      exact k3 k' ok' p e1' ho' hb
    · subst h; cases ho'
    · rw [hold' id' (hr.hp.hlt _ _ e1')] at hb
      rcases hpost.mem c (.inr ⟨k, o, e1, e3⟩) with g | g
      · exact notM id' o' c p e1' e2' ho' hb g
      · have := hr.hp.blt _ _ _ hb; omega
  · obtain ⟨k1, k2, k3⟩ := hr.hp.rin id o2 c e1 e3
    refine ⟨(apartR id o2 e1 e2 c e3).2 k1, Nat.lt_of_lt_of_le k2 hpost.same.size, fun id' o' p hl' ho' hb => ?_⟩
    rcases cases2 _ _ hl' with ⟨k', ok', e1', e2', e3'⟩ | h | ⟨e1', e2'⟩
    · subst e3'; subst e2'
      rw [renO_owned] at ho'
      rw [hβf] at hb
      rcases hpost.mem c (.inl ⟨k', ok', p, e1', ho', hb⟩) with g | g
      · exact notR id o2 c e1 e2 e3 g
      · omega
    · subst h; cases ho'
    · rw [hold' id' (hr.hp.hlt _ _ e1')] at hb
      exact k3 id' o' p e1' ho' hb
 · intro i j o o2 c h1 h2 hc hc'
   rcases hrl2 i o c h1 hc with ⟨k, ok, e1, e2, e3⟩ | ⟨e1, e2, e3⟩ <;> rcases hrl2 j o2 c h2 hc' with ⟨k', ok', e1', e2', e3'⟩ | ⟨e1', e2', e3'⟩
   · rw [← e2, ← e2', hi.hp.rinj k k' ok ok' c e1 e1' e3 e3']
   · rcases hpost.mem c (.inr ⟨k, ok, e1, e3⟩) with g | g
     · exact absurd g (notR j o2 c e1' e2' e3')
     · have := (hr.hp.rin j o2 c e1' e3').2.1; omega
   · rcases hpost.mem c (.inr ⟨k', ok', e1', e3'⟩) with g | g
     · exact absurd g (notR i o c e1 e2 e3)
     · have := (hr.hp.rin i o c e1 e3).2.1; omega
   · exact hr.hp.rinj i j o o2 c e1 e1' e3 e3'
 ·
  intro id o b p hl ho hb
  rcases cases2 _ _ hl with ⟨k, ok, e1, e2, e3⟩ | h | ⟨e1, e2⟩
  · subst e3
    rw [renO_owned] at ho
    subst e2
    rw [hβf] at hb
    rcases hpost.mem b (.inl ⟨k, ok, p, e1, ho, hb⟩) with g | g
    · exact (hBown b g).elim .inl (fun g => .inr (.inl g))
    · exact .inr (.inl (Nat.le_trans hr.same.size g))
  · subst h; cases ho
  · rw [hold' id (hr.hp.hlt _ _ e1)] at hb
    exact hr.own id o b p e1 ho hb
 · refine ⟨hpost.same.os.trans hr.same.os, hpost.same.tape.trans hr.same.tape, hpost.same.output.trans hr.same.output, Nat.le_trans hr.same.size hpost.same.size, fun b hb hn => ?_⟩
   rw [hpost.same.block b (Nat.lt_of_lt_of_le hb hr.same.size) (fun hm => by rcases hBown b hm with g | g; exact hn g; omega)]
   exact hr.same.block b hb hn
 · exact fun b hb => hpost.sub b (hr.fri b hb)
 · intro b hb
   rcases hpost.fro b hb with g | g | g
   · exact hr.fro b g
   · rcases hBown b g with g | g
     · exact .inr (.inl g)
     · exact .inr (.inr g)
   · exact .inr (.inr (Nat.le_trans hr.same.size g))
 · exact fun id x hx => ⟨(hr.hold id x hx).1, m.loc _ _ (hr.hold id x hx).2⟩
 · intro id o2 c hl hc
   rcases hrl2 id o2 c hl hc with ⟨k, o, e1, e2, e3⟩ | ⟨e1, e2, e3⟩
   · rcases hpost.mem c (.inr ⟨k, o, e1, e3⟩) with g | g
     · exact hBown c g
     · exact .inr (Nat.le_trans hr.same.size g)
   · exact hr.rown id o2 c e1 e3
 · exact SVRs_ren hloc hrow2 _ _ (fun y hy => inst_no_tup y hy) hi.vals
end
end Go.Bm
