/-
  OUR OWN: the law TreePuts comes to true.
-/
import Derived.Test.YtcmdngadpplodaaTreeJ
import Derived.Test.YtcmdngadpplodaaResOk
namespace Go.Proofs.Ytcmdngadpplodaa.R
open Go Go.Bm Go.Proofs
set_option linter.unusedVariables false
set_option linter.unusedSimpArgs false
set_option maxRecDepth 4000

theorem Puts_loop0 : ∀ (suf pre : List (List Nd)), pre.length + suf.length ≤ 1000 →
    k55 T.rb (pre ++ suf) (pre.length : Nat) = some (.inl true) ∨
    (k55 T.rb (pre ++ suf) (pre.length : Nat) = some (.inr ()) ∧ ∀ p ∈ suf, p.length ≤ 100)
  | [], pre, h => .inr ⟨ob55 (by
      simp only [b55, lt_end, lt_self, List.append_nil, cond_false]), fun _ h => by cases h⟩
  | p :: suf, pre, h => by
    have live_eq : c2 T.rf = some true := live_run
    simp only [List.length_cons] at h
    by_cases hp : p.length ≤ 100
    · have ih := Puts_loop0 suf (pre ++ [p]) (by simp; omega)
      simp only [List.append_assoc, List.singleton_append] at ih
      have step : ∀ r, k55 T.rb (pre ++ p :: suf) ((pre ++ [p]).length : Nat) = some r → k55 T.rb (pre ++ p :: suf) (pre.length : Nat) = some r := fun r hr => ob55 (by
        simp only [b55, lt_mid, inb_mid, nth_mid, cond_true, Option.bind_some, few_eq, dt (show ((p.length : Nat) : Int) ≤ 100 by omega), Bool.not_true, cond_false, next_mid pre p (by omega)]
        exact hr)
      rcases ih with h1 | ⟨h1, h3⟩
      · exact .inl (step _ h1)
      · refine .inr ⟨step _ h1, fun q hq => ?_⟩
        rcases List.mem_cons.1 hq with rfl | hq
        · exact hp
        · exact h3 q hq
    · refine .inl (ob55 ?_)
      simp only [b55, lt_mid, inb_mid, nth_mid, cond_true, Option.bind_some, few_eq, df (show ¬ ((p.length : Nat) : Int) ≤ 100 by omega), Bool.not_false, live_eq]

theorem TreePuts_eq (e : List Nd) (names : List (List UInt8)) (by_ : List (List Nd)) : c42 T.rf e names by_ = some true := or42 (by
  have live_eq : c2 T.rf = some true := live_run
  simp only [r42, few_eq, live_eq, Option.bind_some]
  by_cases h1 : e.length ≤ 100
  case neg => rw [df (by omega)]; rfl
  rw [dt (by omega), Bool.not_true, cond_false]
  by_cases h2 : names.length ≤ 10
  case neg => rw [dt (by omega), cond_true]
  rw [df (by omega), cond_false]
  by_cases h3 : by_.length ≤ 10
  case neg => rw [dt (by omega), cond_true]
  rw [df (by omega), cond_false]
  have h0 := Puts_loop0 by_ [] (by simp; omega)
  simp only [List.nil_append, List.length_nil] at h0
  rw [show ((0 : Nat) : Int) = (0 : Int) from rfl] at h0
  rcases h0 with h4 | ⟨h4, h5⟩
  · rw [h4]; rfl
  · have hby : ∀ x ∈ by_, x.length ≤ 1000000 := fun x hx => by have := h5 x hx; omega
    rw [h4, Option.bind_some]
    simp only [Put_eq (show e.length ≤ 1000000 by omega) (show names.length ≤ 1000 by omega) (show by_.length ≤ 1000 by omega) hby, refPut_eq (show e.length ≤ 1000000 by omega) (show names.length ≤ 1000 by omega) (show by_.length ≤ 1000 by omega) hby, Option.bind_some, Same_eq put_len put_len, decide_true, cond_true])

theorem lawTreePuts : LawOk T 42 := fun d _ => ⟨true, TreePuts_eq d.1 d.2.1 d.2.2, rfl, rfl, rfl⟩

end Go.Proofs.Ytcmdngadpplodaa.R
