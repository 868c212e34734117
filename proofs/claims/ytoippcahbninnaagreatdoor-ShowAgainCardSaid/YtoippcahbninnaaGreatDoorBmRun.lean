/-
  OUR OWN: a function is what its approximations come to: what they come to can be computed.
-/
import Derived.Test.YtoippcahbninnaaGreatDoorBmOk
namespace Go.Bm

/-- Two that do not hang on one another, in either order. -/
theorem agree_swap {A B R : Type} (x : Option A) (y : Option B) (k : A → B → Option R) : agree (x.bind fun a => y.bind fun b => k a b) (y.bind fun b => x.bind fun a => k a b) = x.bind fun a => y.bind fun b => k a b := by
  cases x <;> cases y <;> simp only [Option.bind_some, Option.bind_none, agree_self]

theorem Tbl.approx {T : Tbl} {g : T.RF → T.RB → T.RF} {k : T.RF → T.RB → T.RB} (hg : ∀ rf rb φ d y, g rf rb φ d = some y → T.stepF rf rb φ d = some y) (hk : ∀ rf rb κ d y, k rf rb κ d = some y → T.stepB rf rb κ d = some y)
    {G : Nat → T.RF × T.RB} (h0 : G 0 = (fun _ _ => none, fun _ _ => none)) (hs : ∀ n, G (n + 1) = (g (G n).1 (G n).2, k (G n).1 (G n).2)) :
    ∀ n, (∀ φ d y, (G n).1 φ d = some y → T.rf φ d = some y) ∧ ∀ κ d y, (G n).2 κ d = some y → T.rb κ d = some y
  | 0 => by
    rw [h0]
    exact ⟨fun _ _ _ h => (by cases h), fun _ _ _ h => (by cases h)⟩
  | n + 1 => by
    obtain ⟨ih1, ih2⟩ := Tbl.approx hg hk h0 hs n
    have hf : NearF (G n).1 fun _ => T.rf := fun f d y h => Evt.all fun _ => ih1 f d y h
    have hb : NearB (G n).2 fun _ => T.rb := fun f d y h => Evt.all fun _ => ih2 f d y h
    rw [hs n]
    refine ⟨fun φ d y h => T.rf_of ?_, fun κ d y h => T.rb_of ?_⟩
    · have h := hg _ _ _ _ _ h
      unfold Tbl.stepF at h ⊢
      cases hf' : T.fn φ with
      | none => simp only [hf'] at h ⊢; exact h
      | some fn =>
        simp only [hf'] at h ⊢
        cases hc : fn.body with
        | none => rw [hc] at h; cases h
        | some c =>
          simp only [hc] at h ⊢
          obtain ⟨N, hN⟩ := evFn_lim hf hb h
          exact hN N (Nat.le_refl _)
    · have h := hk _ _ _ _ _ h
      unfold Tbl.stepB at h ⊢
      cases hc : T.codeAt κ with
      | none => rw [hc] at h; cases h
      | some p =>
        simp only [hc] at h ⊢
        obtain ⟨N, hN⟩ := evBlk_lim hf hb h
        exact hN N (Nat.le_refl _)

end Go.Bm
