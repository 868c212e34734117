import Derived.Test.YtlobhcgbmpcdlaaGreatDoorBmMem
namespace Go.Bm
set_option linter.unusedVariables false
section
variable {P : Program} {R : Type} {w0 : World} {Φ0 own0 : Nat → Prop} {N : Frm} {w : World} {Φ : Nat → Prop} {β : Loc} {s : St} {a : Act} {hp : List (Nat × SObj)}
theorem LfR_oneCell : ∀ {l : Leaf} {v : Value}, LfR w Φ β hp l v → l.def = true → v.oneCell' = true
 | .undef, _, _, h => by cases h
 | .int _ _, _, h, _ => by cases h; rfl
 | .bool _, _, h, _ => by cases h; rfl
 | .str _, _, ⟨_, h, _⟩, _ => by cases h; rfl
 | .list _ _, _, ⟨_, _, h, _⟩, _ => by cases h; rfl
 | .clist _ _, _, ⟨_, _, h⟩, _ => by cases h; rfl
 | .nils, _, h, _ => by cases h; rfl
 | .ptr _ _, _, ⟨_, _, h⟩, _ => by cases h; rfl
 | .eptr _ _ _, _, ⟨_, _, ⟨_, h⟩, _⟩, _ => by cases h; rfl
 | .vptr _ _ _, _, ⟨_, _, _, _, _, _, h⟩, _ => by cases h; rfl
 | .sl _ _, _, ⟨_, _, ⟨_, _, _, h⟩, _⟩, _ => by cases h; rfl
 | .fn _ _ _, _, ⟨_, _, h, _⟩, _ => by cases h; rfl
 | .ifp _ _ _, _, ⟨_, _, h⟩, _ => by cases h; rfl
 | .ifi _ _ _, _, h, _ => by cases h; rfl
 | .mp _, _, ⟨_, _, h⟩, _ => by cases h; rfl
 | .nilp, _, h, _ => by cases h; rfl
 | .nilf, _, h, _ => by cases h; rfl
 | .nili, _, h, _ => by cases h; rfl
 | .nilm, _, h, _ => by cases h; rfl
 | .anyb, _, ⟨_, h⟩, _ => by cases h; rfl
theorem CoR_LfR : ∀ {l : Leaf} {v : Value}, CoR l v → LfR w Φ β hp l v
 | .undef, _, _ => trivial
 | .int _ _, _, h => h
 | .bool _, _, h => h
 | .str _, _, h => h
 | .nils, _, h => h
 | .list _ _, _, h => h.elim
 | .clist _ _, _, h => h.elim
 | .ptr _ _, _, h => h.elim
 | .eptr _ _ _, _, h => h.elim
 | .vptr _ _ _, _, h => h.elim
 | .sl _ _, _, h => h.elim
 | .fn _ _ _, _, h => h.elim
 | .ifp _ _ _, _, h => h.elim
 | .ifi _ _ _, _, h => h.elim
 | .mp _, _, h => h.elim
 | .nilp, _, h => h
 | .nilf, _, h => h
 | .nili, _, h => h
 | .nilm, _, h => h
 | .anyb, _, h => h.elim
theorem CoRs_LfRs : ∀ {l : List Leaf} {v : List Value}, CoRs l v → LfRs w Φ β hp l v
 | [], _, h => h
 | l :: ls, _, ⟨v, vs', e, h1, h2⟩ => ⟨v, vs', e, CoR_LfR h1, CoRs_LfRs h2⟩
theorem ofConst_CoR {v : Value} {l : Leaf} (h : ofConst v = some l) : CoR l v := by
 unfold ofConst at h
 split at h <;> first | (cases h; rfl) | (cases h; exact ⟨_, rfl, rfl⟩) | cases h
theorem ofConsts_CoRs : ∀ {v : List Value} {l : List Leaf}, ofConsts v = some l → CoRs l v
 | [], l, h => by simp [ofConsts] at h; subst h; rfl
 | v :: vs, l, h => by
   simp only [ofConsts] at h
   split at h
   · rename_i x y hx hy; cases h; exact ⟨v, vs, rfl, ofConst_CoR hx, ofConsts_CoRs hy⟩
   · cases h
theorem ofValue_SVR {v : Value} {x : SVal} (h : ofValue v = some x) : SVR w Φ β hp x v := by
 have key : ∀ {v : Value}, (ofConst v).map SVal.one = some x → SVR w Φ β hp x v := by
  intro v h
  cases hl : ofConst v with
  | none => rw [hl] at h; cases h
  | some l => rw [hl] at h; cases h; exact CoR_LfR (ofConst_CoR hl)
 cases v with
 | agg cs =>
   simp only [ofValue] at h
   cases hl : ofConsts cs.toList with
   | none => rw [hl] at h; cases h
   | some l => rw [hl] at h; cases h; exact ⟨cs, rfl, CoRs_LfRs (ofConsts_CoRs hl)⟩
 | _ => exact key h
theorem Rel.eval (hr : Rel w0 Φ0 own0 N w Φ β s a) {x : Operand} {v : SVal} (h : evalO s.env x = some v) : SVR w Φ β s.heap v (a.eval x) := by
 cases x with
 | tmp t => exact hr.env t v h
 | const c => exact ofValue_SVR h
 | global g => cases h
 | func f => cases h; exact ⟨#[], #[], rfl, rfl, rfl⟩
theorem LfRs_len : ∀ {l : List Leaf} {v : List Value}, LfRs w Φ β hp l v → v.length = l.length
 | [], _, h => by cases h; rfl
 | l :: ls, _, ⟨v, vs', e, h1, h2⟩ => by subst e; simp [LfRs_len h2]
theorem LfRs_drop : ∀ {l : List Leaf} {v : List Value} (n : Nat), LfRs w Φ β hp l v → LfRs w Φ β hp (l.drop n) (v.drop n)
 | l, v, 0, h => by simpa using h
 | [], _, n + 1, h => by cases h; simp [LfRs]
 | l :: ls, _, n + 1, ⟨v, vs', e, h1, h2⟩ => by subst e; simpa using LfRs_drop n h2
theorem LfRs_take : ∀ {l : List Leaf} {v : List Value} (n : Nat), LfRs w Φ β hp l v → LfRs w Φ β hp (l.take n) (v.take n)
 | l, v, 0, h => by simp [LfRs]
 | [], _, n + 1, h => by cases h; simp [LfRs]
 | l :: ls, _, n + 1, ⟨v, vs', e, h1, h2⟩ => by subst e; simp only [List.take_succ_cons]; exact ⟨v, _, rfl, h1, LfRs_take n h2⟩
theorem asVal_SVR {agg : Bool} {cs : List Leaf} {x : SVal} {vs : List Value} (h : asVal agg cs = some x) (hr : LfRs w Φ β hp cs vs) : SVR w Φ β hp x (valOf agg vs) := by
 unfold asVal at h
 split at h
 · cases h; exact ⟨vs.toArray, rfl, by simpa using hr⟩
 · cases h; obtain ⟨v, vs', e, h1, h2⟩ := hr; subst e; exact h1
 · cases h
theorem unpack1_LfR : ∀ (t : CT) (x : t.denote) (v : Value), VC w Φ t x [v] → LfR w Φ β hp (unpack1 t x) v
 | .int _, _, _, h => by cases h; rfl
 | .bool, _, _, h => by cases h; rfl
 | .str, _, _, ⟨s, h, e⟩ => by cases h; exact ⟨s, rfl, e⟩
 | .list _, _, _, h => h
 | .unit, _, _, _ => trivial
 | .prod _ _, _, _, _ => trivial
 | .sum _ _, _, _, _ => trivial
theorem unpackL_LfRs : ∀ (t : CT) (x : t.denote) (vs : List Value), VC w Φ t x vs → LfRs w Φ β hp (unpackL t x) vs
 | .unit, _, _, h => h
 | .int _, _, _, h => ⟨_, _, h, rfl, rfl⟩
 | .bool, _, _, h => ⟨_, _, h, rfl, rfl⟩
 | .str, _, _, ⟨s, h, e⟩ => ⟨_, _, h, ⟨s, rfl, e⟩, rfl⟩
 | .list e, l, vs, h => by
   have hh := h
   obtain ⟨a, cap, h1, _⟩ := h
   exact ⟨_, _, h1, by subst h1; exact hh, rfl⟩
 | .prod a r, x, vs, ⟨v, vs', e, h1, h2⟩ => ⟨v, vs', e, unpack1_LfR a x.1 v h1, unpackL_LfRs r x.2 vs' h2⟩
 | .sum _ _, _, _, h => h.elim
theorem upon_ok {o : Oper} {v : Value} {w' : World} {next : Act → World → Prop} {Q : Exit → Act → World → Prop} (h : (execOp a.eval o).run P w = .ok (.value v) w') (hn : next (a.put o.dst v) w') : o.wp P a w next Q := by
 unfold Oper.wp; rw [h]; exact hn
theorem upon_skip {o : Oper} {w' : World} {next : Act → World → Prop} {Q : Exit → Act → World → Prop} (h : (execOp a.eval o).run P w = .ok .skip w') (hn : next (a.put o.dst undef) w') : o.wp P a w next Q := by
 unfold Oper.wp; rw [h]; exact hn
def PStep (P : Program) (R : Type) (S : World → Prop) (w : World) (Φ : Nat → Prop) (β : Loc) (s : St) (a : Act) (o : Oper) (k : St → Option R) (r : R) : Prop :=
 ∃ x v, (∀ w', S w' → (execOp a.eval o).run P w' = .ok (.value v) w') ∧ SVR w Φ β s.heap x v ∧ k (s.set o.dst x) = some r
theorem pstep {S : World → Prop} {o : Oper} {k : St → Option R} {r : R} {x : SVal} {v : Value} (hx : k (s.set o.dst x) = some r) (he : ∀ w', S w' → (execOp a.eval o).run P w' = .ok (.value v) w') (hv : SVR w Φ β s.heap x v) :
 PStep P R S w Φ β s a o k r := ⟨x, v, he, hv, hx⟩
theorem PStep.wp {S : World → Prop} {o : Oper} {next : Act → World → Prop} {Q : Exit → Act → World → Prop} {k : St → Option R} {r : R} (h : PStep P R S w Φ β s a o k r) (hr : Rel w0 Φ0 own0 N w Φ β s a) (hS : S w) (hN : ∀ d, o.dst = some d → N.ok d)
  (hk : ∀ s' a' w' Φ' β', Rel w0 Φ0 own0 N w' Φ' β' s' a' → k s' = some r → next a' w') : o.wp P a w next Q := by
 obtain ⟨x, v, he, hv, hx⟩ := h
 exact upon_ok (he w hS) (hk _ _ _ _ _ (hr.set hv hN) hx)
theorem nth_getElem? {α : Type} : ∀ (l : List α) (i : Nat), nth l i = l[i]?
 | [], _ => by simp [nth]
 | _ :: _, 0 => by simp [nth]
 | x :: l, i + 1 => by simp [nth, nth_getElem? l i]
theorem inb_iff {i : Int} {n : Nat} : inb i n = true ↔ 0 ≤ i ∧ i < n := by
 cases i with
 | ofNat k => simp [inb]
 | negSucc k => simp [inb]
theorem inb'_iff {i : Int} {n : Nat} : inb' i n = true ↔ 0 ≤ i ∧ i ≤ n := by
 cases i with
 | ofNat k => simp [inb']
 | negSucc k => simp [inb']
theorem cond_none {α : Type} {b : Bool} {x : Option α} {r : α} (h : (bif b then x else none) = some r) : b = true ∧ x = some r := by
 cases b
 · cases h
 · exact ⟨rfl, h⟩
theorem cond_none' {α : Type} {b : Bool} {x : Option α} {r : α} (h : (bif b then none else x) = some r) : b = false ∧ x = some r := by
 cases b
 · exact ⟨rfl, h⟩
 · cases h
end
end Go.Bm
