/-
  OUR OWN: the law TypesMore comes to true.
-/
import Derived.Test.YtomofgclaiaikaaTypA
import Derived.Test.YtomofgclaiaikaaResOk
namespace Go.Proofs.Ytomofgclaiaikaa.R
open Go Go.Bm Go.Proofs
set_option linter.unusedVariables false
set_option linter.unusedSimpArgs false
set_option maxRecDepth 4000

theorem tlive_eq : c1 T.rf = some true := live_run

theorem findX_app {α : Type} (p : α → Bool) {x : α} : ∀ (a b : List α), findX p a = some x → findX p (a ++ b) = some x
  | [], b, h => by cases h
  | y :: a, b, h => by
    rw [List.cons_append, findX]
    rw [findX] at h
    cases hp : p y
    · rw [hp] at h; exact findX_app p a b h
    · rw [hp] at h; exact h

theorem nodeT_more {S M : List Pm} {U : List Un} {op : Int} {name : List UInt8} {ts al : List Int} (h : (nodeT S U op name ts al).2 = 0) : nodeT (S ++ M) U op name ts al = nodeT S U op name ts al := by
  unfold nodeT at h ⊢
  by_cases h28 : op = 28
  · rw [if_pos h28, if_pos h28]
  rw [if_neg h28] at h
  rw [if_neg h28, if_neg h28]
  by_cases h3 : op = 3
  · rw [if_pos h3] at h
    rw [if_pos h3, if_pos h3]
    cases hf : findX (isP name) S with
    | none => rw [hf] at h; cases h
    | some p => rw [findX_app _ S M hf]
  · rw [if_neg h3, if_neg h3]

theorem typL_more {S M : List Pm} {U : List Un} {e : List Nd} : ∀ (l : List Nd) (acc out : List Int), typL S U e l acc = .inr out → typL (S ++ M) U e l acc = .inr out
  | [], acc, out, h => h
  | n :: r, acc, out, h => by
    rw [typL] at h
    split at h
    · cases h
    · rename_i hz
      have hz' : (nodeL S U e acc n).2 = 0 := Classical.not_not.1 hz
      have he : nodeL (S ++ M) U e acc n = nodeL S U e acc n := nodeT_more hz'
      rw [typL, he, if_neg hz]
      exact typL_more r _ _ h

theorem ofTy_more {e : List Nd} {S M : List Pm} {U : List Un} (h : (ofTy e S U).2 = 0) : ofTy e (S ++ M) U = ofTy e S U := by
  unfold ofTy at h ⊢
  cases hm : mayB e
  · rw [hm, if_neg (by decide)] at h; cases h
  rw [hm, if_pos rfl] at h
  rw [if_pos rfl, if_pos rfl]
  cases hL : typL S U (norm e) (norm e) [] with
  | inl x =>
    rw [hL] at h
    have : ∀ (l : List Nd) (acc : List Int), typL S U (norm e) l acc = .inl x → x.2 ≠ 0 := by
      intro l
      induction l with
      | nil => intro acc h; cases h
      | cons n r ih =>
        intro acc h
        rw [typL] at h
        split at h
        · rename_i hz; cases h; exact hz
        · exact ih _ h
    exact absurd h (this _ _ hL)
  | inr l => rw [typL_more _ _ _ hL]

theorem TypesMore_eq (e : List Nd) (l m : List Pm) : c108 T.rf e l m = some true := or108 (by
  simp only [r108, tlive_eq, Option.bind_some]
  by_cases h1 : e.length ≤ 200
  case neg => rw [dt (by omega), cond_true]
  by_cases h2 : l.length ≤ 30
  case neg => rw [df (by omega), cond_false, dt (by omega), cond_true]
  by_cases h3 : m.length ≤ 30
  case neg => rw [df (by omega), cond_false, df (by omega), cond_false, dt (by omega), cond_true]
  rw [df (by omega), cond_false, df (by omega), cond_false, df (by omega), cond_false, OfTy_eq ⟨by omega, by simp, by simp⟩ (by omega), Option.bind_some, ble_most (by omega), cond_true, ble_most (by omega), Bool.and_true, cond_true,
    OfTy_eq ⟨by simp; omega, by simp, by simp⟩ (by omega), Option.bind_some]
  by_cases hz : (ofTy e l []).2 = 0
  · rw [ofTy_more hz, nbt hz, cond_false, bt rfl, cond_true, bt hz, cond_true, cond_true]
  · rw [nbf hz, cond_true]
    by_cases hy : (ofTy e (l ++ m) []).2 = 0
    · rw [bt hy, cond_true]
    · rw [bf hy, cond_false, cond_true])

theorem lawTypesMore : LawOk T 108 := fun d _ => ⟨true, TypesMore_eq d.1 d.2.1 d.2.2, rfl, rfl, rfl⟩

end Go.Proofs.Ytomofgclaiaikaa.R
