/-
  OUR OWN: one operation's step: what it comes to, apart from what follows it and, but for calls, from what functions and pieces come to.
-/
import Derived.Test.YtoippcahbninnaaGreatDoorBmNat
namespace Go.Bm
set_option linter.unusedVariables false
set_option linter.unusedSimpArgs false

/-- What is known of a program's functions and pieces, without what they come to. -/
structure Tb where
  tab : Nat → Option TD
  eqt : Nat → Bool
  keys : Nat → List Nat
  lend : Nat → Bool
  mkr : Nat → Bool
  mt : Nat → String → Option (Nat × Option (Nat × Nat))
  gp : World → (Nat → Prop) → Prop
  gv : Nat → Option Dyn
  kin : Nat → Tm
  kouts : Nat → List Tm
  bk : Nat → Blk

abbrev Tb.RF (T : Tb) : Type := (φ : Nat) → (T.kin φ).ct.denote → Option (outsT (T.kouts φ)).denote
abbrev Tb.RB (T : Tb) : Type := (κ : Nat) → (T.bk κ).ins.ct.denote → Option (exitsT (T.bk κ).exits).denote

abbrev Tb.cx (T : Tb) (rf : T.RF) (rb : T.RB) : Cx := ⟨T.tab, T.eqt, T.keys, T.lend, T.mkr, T.mt, T.gp, T.gv, T.kin, T.kouts, T.bk, rf, rb⟩

variable {R A : Type} {T : Tb}

theorem nat' {X : (A → Option R) → Option R} {X' : (A → Option St) → Option St} {Y : Option A} (h : ∀ k, X k = Y.bind k) (h' : ∀ k, X' k = Y.bind k) (g : A → St) (k : St → Option R) :
    X (fun r => k (g r)) = (X' fun r => some (g r)).bind k := by
  rw [h, h', Option.bind_assoc]; rfl

def isCall (o : Oper) : Option (Option String × Operand) := match o.op with
  | .call c => match c.callee with
    | .value f => some (none, f)
    | .invoke x name => some (some name, x)
    | _ => none
  | _ => none
/-- A call, or a method's. -/
def callX (cx : Cx) : Option String → SVal → List SVal → St → (SVal → St → Option R) → Option R
  | none => callK cx
  | some name => invokeK cx name
theorem nat2 {X : (A → St → Option R) → Option R} {X' : (A → St → Option St) → Option St} {Y : Option (A × St)} (h : ∀ k, X k = Y.bind fun p => k p.1 p.2) (h' : ∀ k, X' k = Y.bind fun p => k p.1 p.2) (g : A → St → St) (k : St → Option R) :
    X (fun r s => k (g r s)) = (X' fun r s => some (g r s)).bind k := by
  rw [h, h', Option.bind_assoc]; rfl

theorem stepK_nat (rf rf' : T.RF) (rb rb' : T.RB) (o : Oper) (s : St) (k : St → Option R) (hc : isCall o = none) : stepK (T.cx rf rb) o s k = (stepK (T.cx rf' rb') o s some).bind k := by
  unfold stepK
  dsimp only [Tb.cx]
  split
  · split <;> rfl
  · split <;> rfl
  · repeat' split
    all_goals (first | rfl | simp only [bif_bind, Option.bind_some, Option.bind_none])
    all_goals (congr 1 <;> split <;> rfl)
  · split <;> rfl
  · repeat' split
    all_goals (first | rfl | simp only [bif_bind, Option.bind_some, Option.bind_none])
  · repeat' split
    all_goals rfl
  · repeat' split
    all_goals (first | rfl | (simp only [bif_bind, Option.bind_some, Option.bind_none]; done) | (simp only [bif_bind, Option.bind_some, Option.bind_none]; congr 1; (repeat' split) <;> rfl))
  · split
    · split
      · exact nat' (fun k => loadK_nat _ _ _ k) (fun k => loadK_nat _ _ _ k) _ k
      · rfl
    · split
      · exact nat2 (fun k => loadS_nat _ _ _ k) (fun k => loadS_nat _ _ _ k) _ k
      · rfl
  · split
    · exact nat' (fun k => storeS_nat _ _ _ _ k) (fun k => storeS_nat _ _ _ _ k) _ k
    · rfl
  · split <;> rfl
  · split
    · exact nat' (fun k => binK_nat _ _ _ _ _ k) (fun k => binK_nat _ _ _ _ _ k) _ k
    · rfl
  · split
    · exact nat' (fun k => unK_nat _ _ k) (fun k => unK_nat _ _ k) _ k
    · rfl
  · split
    · rfl
    · rfl
    · exact nat2 (fun k => convK_nat _ _ _ _ _ _ k) (fun k => convK_nat _ _ _ _ _ _ k) _ k
    · rfl
  · repeat' split
    all_goals (first | rfl | simp only [bif_bind, Option.bind_some, Option.bind_none])
  · split
    · split
      · exact nat' (fun k => sliceK_nat _ _ _ _ _ k) (fun k => sliceK_nat _ _ _ _ _ k) _ k
      · rfl
    · rfl
  · split
    · exact nat' (fun k => slice3K_nat _ _ _ _ k) (fun k => slice3K_nat _ _ _ _ k) _ k
    · rfl
  · split
    · exact nat' (fun k => fieldAddrK_nat _ _ _ k) (fun k => fieldAddrK_nat _ _ _ k) _ k
    · rfl
  · split
    · exact nat' (fun k => fieldK_nat _ _ _ k) (fun k => fieldK_nat _ _ _ k) _ k
    · rfl
  · split
    · exact nat' (fun k => indexAddrK_nat _ _ _ _ k) (fun k => indexAddrK_nat _ _ _ _ k) _ k
    · rfl
  · split
    · simp only [bif_bind, Option.bind_some, Option.bind_none, Option.bind_assoc]
    · exact nat' (fun k => arrK_nat _ _ _ _ _ k) (fun k => arrK_nat _ _ _ _ _ k) _ k
    · rfl
  · split
    · exact nat' (fun k => extractK_nat _ _ k) (fun k => extractK_nat _ _ k) _ k
    · rfl
  · split <;> rfl
  · split
    · exact nat2 (fun k => lookupS_nat _ _ _ _ _ k) (fun k => lookupS_nat _ _ _ _ _ k) _ k
    · rfl
  · split
    · exact nat' (fun k => updateS_nat _ _ _ _ _ k) (fun k => updateS_nat _ _ _ _ _ k) _ k
    · rfl
  · split
    · exact nat' (fun k => updateS_nat _ _ _ _ _ k) (fun k => updateS_nat _ _ _ _ _ k) _ k
    · rfl
  · split <;> rfl
  · rename_i c ho
    split
    · repeat' split
      all_goals rfl
    · split
      · cases Nat.beq _ _
        · rfl
        · simp only [cond_true]
          split
          · simp only [bif_bind]
            congr 1
            rw [appendK_nat]
            conv => rhs; rw [appendK_nat]
            simp only [Option.bind_assoc, Option.bind_some, Option.bind_none]
          · rfl
      · rfl
    · split
      · split
        · exact nat' (fun k => spliceK_nat _ _ _ _ _ k) (fun k => spliceK_nat _ _ _ _ _ k) _ k
        · rfl
      · rfl
    · split
      · split
        · exact nat' (fun k => deleteK_nat _ _ _ _ k) (fun k => deleteK_nat _ _ _ _ k) _ k
        · rfl
      · rfl
    · split
      · split
        · simp only [bif_bind, Option.bind_none]
          congr 1
          split
          · exact nat' (fun k => spliceK_nat _ _ _ _ _ k) (fun k => spliceK_nat _ _ _ _ _ k) _ k
          · rfl
        · rfl
      · rfl
    · split
      · exact nat' (fun k => maxK_nat k _ _ _) (fun k => maxK_nat k _ _ _) _ k
      · rfl
    · split
      · exact nat' (fun k => minK_nat k _ _ _) (fun k => minK_nat k _ _ _) _ k
      · rfl
    · rename_i f hf
      simp [isCall, ho, hf] at hc
    · rename_i x nm hf
      simp [isCall, ho, hf] at hc
    · rfl
  · split <;> rfl
  · split
    · simp only [bif_bind, Option.bind_some, Option.bind_none]
    · rfl
  · rfl

theorem stepK_call (cx : Cx) {o : Oper} {f : Option String × Operand} (hc : isCall o = some f) (s : St) (k : St → Option R) : ∃ c : Call, o.op = .call c ∧ stepK cx o s k = match evalO s.env f.2, evalAll s.env c.args.toList with
      | some v, some vs => callX cx f.1 v vs s fun r s' => k (s'.set o.dst r)
      | _, _ => none := by
  unfold isCall at hc
  split at hc
  · rename_i c ho
    split at hc
    · rename_i f' hf
      cases hc
      exact ⟨c, ho, by simp only [stepK, ho, hf]; rfl⟩
    · rename_i f' nm hf
      cases hc
      exact ⟨c, ho, by simp only [stepK, ho, hf]; rfl⟩
    · cases hc
  · cases hc

end Go.Bm
